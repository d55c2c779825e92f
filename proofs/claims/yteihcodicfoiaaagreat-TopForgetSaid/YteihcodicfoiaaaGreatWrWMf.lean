/-
  What is proved: the contract of wear's worlds.
-/
import Derived.Test.YteihcodicfoiaaaGreat42Mf
import Derived.Test.YteihcodicfoiaaaGreatTellMf
import Derived.Deep.RegionLawGrows
import Derived.Deep.RegionLaw
import Derived.Deep.DeepCutAuto
namespace Go.Proofs.YteihcodicfoiaaaGreat
set_option maxRecDepth 100000
set_option maxHeartbeats 8000000
open Go Go.RowKit
structure Eg where
 l:List Int
 A:Option Addr
 c:Nat
def Eg.val (x:Eg):Value:=.slice x.A x.l.length x.c
def IntR (V:World) (A:Option Addr) (l:List Int):Prop:=Ad V A (Ac l)/\∀ a,A=some a->∃ cs,Bk V a.block 3 cs
structure Gf (B q:Nat) (V V':World):Prop where
 os:V'.os=V.os
 tape:V'.tape=V.tape
 output:V'.output=V.output
 size:V.heap.size<=V'.heap.size
 block:∀ k,k<B->k≠q->V'.heap[k]?=V.heap[k]?
 ty:∀ g t cs,Bk V g t cs->t≠22->g≠q->Bk V' g t cs
section
variable {B q:Nat} {U V V':World}
theorem Gf.trans (h:Gf B q U V) (k:Gf B q V V'):Gf B q U V' :=
 ⟨k.os.trans h.os,k.tape.trans h.tape,k.output.trans h.output,Nat.le_trans h.size k.size,fun i hi hq=>(k.block i hi hq).trans (h.block i hi hq),fun g t cs hg h1 h2=>k.ty g t cs (h.ty g t cs hg h1 h2) h1 h2⟩
theorem Gf.of_below (h:Below V.heap.size V V') (hB:B<=V.heap.size):Gf B q V V' :=
 ⟨h.os,h.tape,h.output,h.size,fun k hk _=>h.block k (by omega),fun g t cs hg _ _=>hg.keep h⟩
theorem Gf.intR (h:Gf B q V V') {cs:Array Value} (hq:Bk V q 32 cs) {A:Option Addr} {l:List Int} (hi:IntR V A l):IntR V' A l:=by
 have key:∀ a,A=some a->∃ cs,Bk V a.block 3 cs/\Bk V' a.block 3 cs:=fun a ha=>by
  obtain ⟨cs',h1⟩:=hi.2 a ha;exact ⟨cs',h1,h.ty _ _ _ h1 (by decide) (h1.ne hq (by decide))⟩
 refine ⟨hi.1.of_heap (fun a ha=>?_) h.size,fun a ha=>?_⟩
 ·obtain ⟨cs',h1,h2⟩:=key a ha;exact h2.trans h1.symm
 ·obtain ⟨cs',_,h2⟩:=key a ha;exact ⟨cs',h2⟩
theorem IntR.below {A:Option Addr} {l:List Int} (h:IntR V A l) (hb:Below V.heap.size V V'):IntR V' A l :=
 ⟨h.1.below hb,fun a ha=>by obtain ⟨cs,h1⟩:=h.2 a ha;exact ⟨cs,h1.keep hb⟩⟩
theorem Gf.grown {row:Option Nat} (hg:V.grownBy V' row) (hB:B<=V.heap.size) (hr:∀ r,row=some r->B<=r/\∃ cs,Bk V r 22 cs):Gf B q V V':=by
 refine ⟨hg.os,hg.tape,hg.output,hg.size,fun k hk _=>hg.block k (by omega) fun e=>?_,fun g t cs hgt h1 _=>(hg.block g hgt.lt fun e=>?_).trans hgt⟩
 ·have:=(hr k e.symm).1;omega
 ·obtain ⟨cs',h2⟩:=(hr g e.symm).2;have:=hgt.symm.trans h2;simp at this;exact h1 this.2
theorem Gf.store (u:Value):Gf B q V (V.setCell ⟨q,0,none⟩ u) :=
 ⟨rfl,rfl,rfl,by simp,fun k _ hk=>Below.heap_setCell _ _ _ _ hk,fun _ _ _ h _ h2=>h.far h2 u⟩
structure OutI (B q:Nat) (out:List Eg) (oA:Option Addr) (oc:Nat) (V:World):Prop where
 lt:q<B/\B<=V.heap.size
 bk:Bk V q 32 #[.slice oA out.length oc]
 ow:V.ownsRow B 22 1 (.slice oA out.length oc) out.length (out.map Eg.val)
 el:∀ x∈out,IntR V x.A x.l
theorem OutI.below {out:List Eg} {oA:Option Addr} {oc:Nat} (h:OutI B q out oA oc V) (hb:Below V.heap.size V V'):OutI B q out oA oc V' :=
 ⟨⟨h.lt.1,Nat.le_trans h.lt.2 hb.size⟩,h.bk.keep hb,Ca h.ow hb,fun x hx=>(h.el x hx).below hb⟩
theorem OutI.push {out:List Eg} {oA:Option Addr} {oc:Nat} (h:OutI B q out oA oc V) {x:Eg} (hx:IntR V x.A x.l) {A':Option Addr} {c':Nat}
  (hown:V'.ownsRow B 22 1 (.slice A' (out.length+1) c') (out.length+1) (out.map Eg.val ++ [x.val])) (hg:V.grownBy V' (Value.slice oA out.length oc).ownBlock) :
  OutI B q (out ++ [x]) A' c' (V'.setCell ⟨q,0,none⟩ (.slice A' (out.length+1) c'))/\Gf B q V (V'.setCell ⟨q,0,none⟩ (.slice A' (out.length+1) c')):=by
 have k1:Gf B q V V':=Gf.grown hg h.lt.2 fun r hr=>⟨(h.ow.lt r hr).1,Ck h.ow hr⟩
 have hq':Bk V' q 32 #[.slice oA out.length oc]:=(hg.block q h.bk.lt (Bl h.ow h.bk (by decide))).trans h.bk
 have k2:=k1.trans (Gf.store (B:=B) (q:=q) (V:=V') (.slice A' (out.length+1) c'));have e1:(out ++ [x]).length=out.length+1:=by simp
 refine ⟨⟨⟨h.lt.1,Nat.le_trans h.lt.2 k2.size⟩,?_,?_,fun y hy=>?_⟩,k2⟩
 ·rw [e1];exact hq'.put 0 (.slice A' (out.length+1) c')
 ·rw [e1,List.map_append,List.map_singleton];refine own_far hown (fun e=>?_) _
  have:=(hown.lt q e).1;have:=h.lt.1;omega
 ·rcases List.mem_append.1 hy with hy | hy
  ·exact k2.intR h.bk (h.el y hy)
  ·rw [List.mem_singleton.1 hy];exact k2.intR h.bk hx
end
theorem info22w:(Tryz.prog.info? 22).map (fun i=>(i.zero,i.size,i.bytes))=some (some (.slice none 0 0),1,24):=by kernel_rfl
theorem clip_any (A:Option Addr) (c n:Nat) (w:World) (hn:n<=c) (hA:(A=none->n=0/\c=0)/\(0<n\/A=none)) (ha:∀ a,A=some a->a.spot=none) (h9:c<=9223372036854775807) :
  Calls Tryz.prog 144 #[.slice A n c] w fun e w'=>e=.returned (.slice A n n)/\w'=w:=by
 cases A with
 | none =>
  obtain ⟨rfl,rfl⟩:=hA.1 rfl;go_enter Tryz.func144,Tryz.ntmps144;go_wp2_with fail;go_ret;exact ⟨rfl,rfl⟩
 | some a =>
  have h0:0<n:=hA.2.resolve_right (by simp)
  have hn0:¬ n=0:=by omega
  have hnI:(n:Int)<=c:=by omega
  have hcn:¬ (c=0):=by omega
  obtain ⟨b,off,sp⟩:=a;obtain rfl:=ha _ rfl;go_enter Tryz.func144,Tryz.ntmps144;go_wp2_with fail;go_ret;exact ⟨rfl,rfl⟩
structure FromI (D:Ap) (B q1 q2 q3:Nat) (W:World):Prop where
 lt:q1<B/\q3<B/\q1≠q2/\q3≠q2/\B<=W.heap.size
 b1:Bk W q1 55 D.arr
 b3:Bk W q3 259 #[.func (.func 143) #[] #[.pointer (some ⟨q1,0,none⟩),.pointer (some ⟨q2,0,none⟩),.pointer (some ⟨q3,0,none⟩)]]
 hp:Ad W D.A2 (Am D.hp)
 hA:0<D.hp.length->∀ a,D.A2=some a->a.block<B/\a.block≠q2
theorem FromI.keep {D:Ap} {B q1 q2 q3:Nat} {W V:World} (h:FromI D B q1 q2 q3 W) (k:Gf B q2 W V):FromI D B q1 q2 q3 V :=
 ⟨⟨h.lt.1,h.lt.2.1,h.lt.2.2.1,h.lt.2.2.2.1,Nat.le_trans h.lt.2.2.2.2 k.size⟩,(k.block q1 h.lt.1 h.lt.2.2.1).trans h.b1,(k.block q3 h.lt.2.1 h.lt.2.2.2.1).trans h.b3,
  fun h0=>(h.hp.of_heap (fun a ha=>k.block _ (h.hA (by simpa [Gr] using h0) a ha).1 (h.hA (by simpa [Gr] using h0) a ha).2) k.size) h0,h.hA⟩
theorem row_holds {V:World} {A:Option Addr} {l:List Value} (hs:∀ a,A=some a->a.spot=none) (h:Ad V A l):∀ b,A=some b->∀ j u,l[j]?=some u->V.cell? (b.add j)=some u:=by
 intro b hb j u hu;have h0:0<l.length:=Nat.lt_of_le_of_lt (Nat.zero_le _) (List.getElem?_eq_some_iff.1 hu).1;obtain ⟨b',off,e,_,hc⟩:=h h0;rw [hb] at e;injection e with e
 subst e;rw [De];exact hc j u hu
def FromP (D:Ap) (B q2:Nat) (p:List Int) (out:List Eg) (V:World) (e:Ending) (V':World):Prop :=
 e=.returned (.tuple #[])/\Gf B q2 V V'/\∃ out' oA oc,OutI B q2 (out ++ out') oA oc V'/\out'.map Eg.l=(Dj (D.hp.drop p.length)).map (p ++ ·)
structure PreI (A:Option Addr) (c:Nat) (p:List Int) (V:World):Prop where
 r:IntR V A p
 le:p.length<=c/\c<=9223372036854775807
 nil_:A=none->p.length=0/\c=0
 pos:0<p.length\/A=none
 spt:∀ a,A=some a->a.spot=none
theorem pre_of_own {V:World} {base:Nat} {v:Value} {p:List Int} {n:Int} (h:V.ownsRow base 3 1 v (p.length+1) (Ac p ++ [.int .i64 n])):∃ (g c:Nat),v=.slice (some ⟨g,0,none⟩) (p.length+1) c/\PreI (some ⟨g,0,none⟩) c (p ++ [n]) V:=by
 obtain ⟨g,c,cur,rfl,_,hb,hc,_⟩:=own_some h (by omega)
 have h1:=own_rowB h;have h2:=(own_cap h).2.1;have e:Ac (p ++ [n])=Ac p ++ [.int .i64 n]:=by simp [Ac]
 unfold maxLen at h2;refine ⟨g,c,rfl,⟨⟨fun _=>⟨g,0,rfl,h1.1,by rw [e];exact h1.2⟩,fun a ha=>?_⟩,⟨by simpa using hc,by omega⟩,fun h=>(by cases h),.inl (by simp),fun a ha=>?_⟩⟩
 ·injection ha with ha
  subst ha;exact ⟨_,hb⟩
 ·injection ha with ha
  subst ha;rfl
theorem from_leaf (D:Ap) (B q1 q2 q3:Nat) (p:List Int) (A:Option Addr) (c:Nat) (out:List Eg) (oA:Option Addr) (oc:Nat) (V:World) (hF:FromI D B q1 q2 q3 V) (hO:OutI B q2 out oA oc V) (hP:PreI A c p V)
  (hl:p.length=D.hp.length) (h8:D.hp.length<=8) (ho:out.length<=1000) :
  Calls Tryz.prog 143 #[.slice A p.length c,.pointer (some ⟨q1,0,none⟩),.pointer (some ⟨q2,0,none⟩),.pointer (some ⟨q3,0,none⟩)] V (FromP D B q2 p out V):=by
 have x1:=hF.b1.cell 1;have xl:=hF.b1.lt;simp [Ap.arr] at x1;rw [<- hl] at x1;have HC:=Hd (fun (X:World) (h:Below V.heap.size V X)=>clone_ints_new A c p.length (Ac p) X (by omega) (by simp [Ac]) (intCells_one _) (hP.r.1.below h))
 have HO:=Hd hO;have HL:=Hd (Ai hl ho);obtain ⟨i0,hi0,hz0,hz1,hz2⟩:=info_parts info22w;have hq2:q2<B/\B<=V.heap.size:=hO.lt;clear hF hO hP hl h8 ho;go_enter Tryz.func143,Tryz.ntmps143;go_upto_region 1 with fail
 have hS0:V.drew.cell? ⟨q2,0,none⟩=some (.slice oA out.length oc):=by have:=HO.out.bk.drew.cell 0;simpa using this
 have HC1:=Hd (HC.out V.drew (Below.refl _ _).drew);clear HC x1 xl;go_region_law
  (first
  | (go_simp;go_at_call 111;refine HC1.out.mono ?_;rintro e w5 ⟨⟨A5,c5,rfl,r5,g5,t5⟩,hb5⟩;dsimp only;have hbD:Below V.heap.size V w5:=(Below.refl V.heap.size V).drew.trans hb5;have hbX:Below V.heap.size V (w5.alloc (.cells #[.slice A5 p.length c5] 22)):=hbD.alloc hbD.size _;have hS1:w5.cell? ⟨q2,0,none⟩=some (.slice oA out.length oc):=by { have:=(HO.out.below hbD).bk.cell 0;simpa using this };have hS2:(w5.alloc (.cells #[.slice A5 p.length c5] 22)).cell? ⟨q2,0,none⟩=some (.slice oA out.length oc):=by { have:=(HO.out.below hbX).bk.cell 0;simpa using this };have HX5:=Hd (Ai (show IntR (w5.alloc (.cells #[.slice A5 p.length c5] 22)) A5 p from (show IntR w5 A5 p from ⟨r5,t5⟩).below Ba) hbX);clear r5 g5 t5 hb5 hbD hbX)
  | (have hxs:=(HO.out.below HX5.out.2).ow;refine Dq rfl _ _ 32 rfl B 22 i0 _ 1 24 Tryz.underlying32 hi0 hz0 hz1 hz2 rfl (by decide) (.slice oA out.length oc) out.length (out.map Eg.val) rfl hxs ⟨w5.heap.size,0,none⟩ 1 1 [.slice A5 p.length c5] rfl rfl (Gb (Aa rfl)) (by simp [Value.oneCell']) (by have:=HL.out;unfold maxLen;omega) (by have:=HL.out;omega) (by have:=HX5.out.2.size;omega) ?_;intro v6 w6 hown6 hg6;obtain ⟨A6,c6,rfl,_,_,_⟩:=Au hown6;have HE6:=Hd ((HO.out.below HX5.out.2).push (x:=⟨p,A5,c5⟩) HX5.out.1 hown6 hg6);have B6:Bk w6 q2 32 #[.slice oA out.length oc]:=(hg6.block q2 (HO.out.below HX5.out.2).bk.lt (Bl hxs (HO.out.below HX5.out.2).bk (by decide))).trans (HO.out.below HX5.out.2).bk;have c4:=B6.cell 0;have f4:=B6.fz 0;have l4:=B6.lt;simp at c4;clear B6 hown6 hg6 hxs))
 all_goals
  clear hS0 hS1 hS2 c4 f4 l4 HC1;go_wp2_with fail;refine bodyPost_end (results_none rfl _ _ _) rfl ?_;refine ⟨rfl,(Gf.of_below HX5.out.2 hq2.2).trans HE6.out.2,[⟨p,A5,c5⟩],A6,c6,by simpa using HE6.out.1,?_⟩
  rw [HL.out.1,List.drop_length];simp [Dj]
theorem drop_cons {l:List (Int×Int)} {j:Nat} (hj:j<l.length):l.drop j=l.getD j (0,0) :: l.drop (j+1):=by
 rw [Aj _ _ hj];exact List.drop_eq_getElem_cons hj
def partW (lo:Int) (l:List (Int×Int)) (k:Nat):List (List Int):=(List.range k).flatMap fun i:Nat=>(Dj l).map fun w=>(lo+(i:Int)) :: w
theorem partW_succ (lo:Int) (l:List (Int×Int)) (k:Nat):partW lo l (k+1)=partW lo l k ++ (Dj l).map fun w=>(lo+(k:Int)) :: w:=Gp _ k
theorem partW_len (lo:Int) (l:List (Int×Int)) (k:Nat):(partW lo l k).length=k*(Dj l).length:=by
 unfold partW;rw [Jo _ (Dj l).length _ (fun _ _=>by simp)]
 simp
theorem worldsL_cons (h:Int×Int) (l:List (Int×Int)):Dj (h :: l)=partW h.1 l (h.2 - h.1+1).toNat:=rfl
theorem from_any (D:Ap) (B q1 q2 q3:Nat) (h8:D.hp.length<=8) (hhp:∀ x∈D.hp,1<=x.1/\x.1<=x.2/\x.2<=255):∀ (m:Nat) (p:List Int) (A:Option Addr) (c:Nat) (out:List Eg) (oA:Option Addr) (oc:Nat) (V:World),
  p.length+m=D.hp.length->FromI D B q1 q2 q3 V->OutI B q2 out oA oc V->PreI A c p V->out.length+(Dj (D.hp.drop p.length)).length<=1000 ->
  Calls Tryz.prog 143 #[.slice A p.length c,.pointer (some ⟨q1,0,none⟩),.pointer (some ⟨q2,0,none⟩),.pointer (some ⟨q3,0,none⟩)] V (FromP D B q2 p out V):=by
 intro m
 induction m with
 | zero =>
  intro p A c out oA oc V hm hF hO hP hl;exact from_leaf D B q1 q2 q3 p A c out oA oc V hF hO hP (by omega) h8 (by omega)
 | succ m ih =>
  intro p A c out oA oc V hm hF hO hP hl;have hj:p.length<D.hp.length:=by omega
  have hh:=hhp _ (List.getElem_mem hj);rw [<- Aj D.hp (0,0) hj] at hh;have hdr:=drop_cons hj;obtain ⟨b5,o5,hA5,hb5,hc5⟩:=span_row hF.hp (by omega)
  obtain ⟨s0,s1⟩:=hc5 p.length hj;have x1:=hF.b1.cell 1;have xl:=hF.b1.lt;simp [Ap.arr] at x1;rw [hA5] at x1;have hjI:(p.length:Int)<D.hp.length:=by omega
  have hne:((p.length:Int) == (D.hp.length:Int))=false:=by simp;omega
  rw [hdr,worldsL_cons] at hl;have HP0:=Hd (show ∀ (V':World) (o2:List Eg) (oA2:Option Addr) (oc2:Nat),Gf B q2 V V'->OutI B q2 (out ++ o2) oA2 oc2 V'->o2.map Eg.l=(partW (D.hp.getD p.length (0,0)).1 (D.hp.drop (p.length+1)) ((D.hp.getD p.length (0,0)).2 - (D.hp.getD p.length (0,0)).1+1).toNat).map (p ++ ·)->FromP D B q2 p out V (.returned (.tuple #[])) V' from
   fun V' o2 oA2 oc2 h1 h2 h3=>⟨rfl,h1,o2,oA2,oc2,h2,by rw [hdr,worldsL_cons];exact h3⟩)
  clear hdr hA5 hc5 hb5 hhp;generalize (D.hp.getD p.length (0,0)).1=lo at s0 hh hl HP0;generalize (D.hp.getD p.length (0,0)).2=hi at s1 hh hl HP0;obtain ⟨K,hK⟩:∃ K:Nat,K=(hi - lo+1).toNat:=⟨_,rfl⟩;rw [<- hK] at hl HP0;have HKI:=Hd (show hi=lo+K - 1 by omega)
  have hK0:1<=K/\K<=255:=by omega
  have HIH:=Hd (fun (k:Nat) (A':Option Addr) (c':Nat) (out':List Eg) (oA':Option Addr) (oc':Nat) (X:World) (h1:FromI D B q1 q2 q3 X) (h2:OutI B q2 out' oA' oc' X) (h3:PreI A' c' (p ++ [lo+(k:Int)]) X) (h4:out'.length+(Dj (D.hp.drop (p.length+1))).length<=1000) =>
   (show Calls Tryz.prog 143 #[.slice A' (p.length+1) c',.pointer (some ⟨q1,0,none⟩),.pointer (some ⟨q2,0,none⟩),.pointer (some ⟨q3,0,none⟩)] X (fun e V'=>e=.returned (.tuple #[])/\Gf B q2 X V'/\∃ o2 oA oc,OutI B q2 (out' ++ o2) oA oc V'/\o2.map Eg.l=(Dj (D.hp.drop (p.length+1))).map ((p ++ [lo+(k:Int)]) ++ ·)) from by
    have:=ih (p ++ [lo+(k:Int)]) A' c' out' oA' oc' X (by simp;omega) h1 h2 h3 (by simpa using h4)
    unfold FromP at this
    simpa using this))
  have hq2:=hO.lt;have hbX:Below V.heap.size V (V.alloc (.cells #[.int .i64 lo,.int .i64 hi] 29)):=Ba;have HX:=Hd (show Gf B q2 V (V.alloc (.cells #[.int .i64 lo,.int .i64 hi] 29))/\Bk (V.alloc (.cells #[.int .i64 lo,.int .i64 hi] 29)) V.heap.size 29 #[.int .i64 lo,.int .i64 hi]/\OutI B q2 (out ++ []) oA oc (V.alloc (.cells #[.int .i64 lo,.int .i64 hi] 29)) from
   ⟨Gf.of_below hbX hq2.2,Aa rfl,by simpa using hO.below hbX⟩)
  have HF:=Hd hF;have HPP:=Hd hP;have HO:=Hd hO;have HLN:=Hd (Ai hl (Ai h8 hj));clear hF hO hP hbX ih hl hm hK;go_enter Tryz.func143,Tryz.ntmps143;go_wp2_with fail;clear hne;go_loopw [6] (fun v wr=>∃ (k:Nat) (o2:List Eg) (oA2:Option Addr) (oc2:Nat),k<=K/\v=.int .i64 (lo+k)/\Gf B q2 V wr/\Bk wr V.heap.size 29 #[.int .i64 lo,.int .i64 hi]/\OutI B q2 (out ++ o2) oA2 oc2 wr/\Hid (o2.map Eg.l=(partW lo (D.hp.drop (p.length+1)) k).map (p ++ ·))) (fun v _=>K - (intOf v - lo).toNat)
  case atStart=>exact ⟨0,[],oA,oc,by omega,by simp,HX.out.1,HX.out.2.1,HX.out.2.2,Hd (by simp [partW])⟩
  case round =>
   obtain ⟨k,o2,oA2,oc2,hk,rfl,hKW,hB5,hOI,hmap⟩:=hrel;clear s0 s1 x1 xl;have z1:=hB5.cell 1;simp at z1;have hKI:=HKI.out
   by_cases hlt:k<K
   ·have hle:lo+(k:Int)<=hi:=by omega
    have hbd:out.length+o2.length+(Dj (D.hp.drop (p.length+1))).length<=1000:=by
     have h1:=congrArg List.length hmap.out;simp only [List.length_map,partW_len] at h1;have h2:=HLN.out.1;rw [partW_len] at h2;have h3:(k+1)*(Dj (D.hp.drop (p.length+1))).length<=K*(Dj (D.hp.drop (p.length+1))).length:=Nat.mul_le_mul_right _ hlt;rw [Nat.add_mul] at h3;omega
    have hbI:B<=wr.heap.size:=hOI.lt.2;have HCL:=Hd (fun X:World=>clip_any A c p.length X HPP.out.le.1 ⟨HPP.out.nil_,HPP.out.pos⟩ HPP.out.spt HPP.out.le.2)
    have HRW:=Hd (show IntR wr A p from hKW.intR HO.out.bk HPP.out.r)
    have hT0:wr.drew.cell? ⟨q3,0,none⟩=some (.func (.func 143) #[] #[.pointer (some ⟨q1,0,none⟩),.pointer (some ⟨q2,0,none⟩),.pointer (some ⟨q3,0,none⟩)]):=((HF.out.keep hKW).b3.drew.cell 0).trans rfl;have hT1:(wr.drew.alloc (.cells #[.int .i64 (lo+(k:Int))] 3)).cell? ⟨q3,0,none⟩=some (.func (.func 143) #[] #[.pointer (some ⟨q1,0,none⟩),.pointer (some ⟨q2,0,none⟩),.pointer (some ⟨q3,0,none⟩)]):=(((HF.out.keep hKW).b3.drew.alloc _).cell 0).trans rfl;have hT1':(wr.alloc (.cells #[.int .i64 (lo+(k:Int))] 3)).drew.cell? ⟨q3,0,none⟩=some (.func (.func 143) #[] #[.pointer (some ⟨q1,0,none⟩),.pointer (some ⟨q2,0,none⟩),.pointer (some ⟨q3,0,none⟩)]):=hT1;obtain ⟨i0,hi0,hz0,hz1,hz2⟩:=info_parts info_ints;have HR:=Hd (Ai hKW (Ai hB5 (Ai hOI hmap)));clear hKW hB5 hOI hmap hKI;go_upto_region 6 with fail
    clear z1 hle;have hbA:Below wr.heap.size wr (wr.drew.alloc (.cells #[.int .i64 (lo+(k:Int))] 3)):=(Below.refl _ _).drew.alloc Le _;have HBA:=Hd hbA;clear hbA;go_region_law
     (first
     | (refine step_append_grows rfl _ _ 22 rfl 3 i0 _ 1 8 Tryz.underlying22 hi0 hz0 hz1 hz2 rfl (by decide) A p.length p.length (Ac p) rfl (fun h=>⟨(HPP.out.nil_ h).1,(HPP.out.nil_ h).1⟩) (by simp [Ac]) (row_holds HPP.out.spt (HRW.out.1.below HBA.out)) ⟨wr.drew.heap.size,0,none⟩ 1 1 [.int .i64 (lo+(k:Int))] rfl rfl (Gb (Aa rfl)) (by simp [Value.oneCell']) (by omega) (by have:=HLN.out.2;unfold maxLen;omega) (by have:=HLN.out.2;omega) ?_;intro v6 w6 hown6 hg6;obtain ⟨g6,c6,rfl,hpre6⟩:=pre_of_own hown6;have hb6:Below wr.heap.size wr w6:=HBA.out.trans (show Below wr.heap.size (wr.drew.alloc (.cells #[.int .i64 (lo+(k:Int))] 3)) w6 from ⟨hg6.os,hg6.tape,hg6.output,hg6.size,fun i hi=>hg6.block i (Nat.lt_of_lt_of_le hi HBA.out.size) (by simp)⟩);have hT2:w6.cell? ⟨q3,0,none⟩=some (.func (.func 143) #[] #[.pointer (some ⟨q1,0,none⟩),.pointer (some ⟨q2,0,none⟩),.pointer (some ⟨q3,0,none⟩)]):=(((HF.out.keep HR.out.1).b3.keep hb6).cell 0).trans rfl;have H6:=Hd (Ai hb6 hpre6);clear hown6 hg6 hpre6 hb6)
     | (go_simp;go_at_call 144;refine (HCL.out _).mono ?_;rintro e w5 ⟨rfl,rfl⟩;dsimp only)
     | (go_simp;go_at_call 143;refine (HIH.out k (some ⟨g6,0,none⟩) c6 (out ++ o2) oA2 oc2 w6 (HF.out.keep (HR.out.1.trans (Gf.of_below H6.out.1 hbI))) (HR.out.2.2.1.below H6.out.1) H6.out.2 (by simp;omega)).mono ?_;rintro e w7 ⟨rfl,k7,o3,oA3,oc3,O7,m7⟩;dsimp only;have H7:=Hd (Ai k7 (Ai O7 m7));clear k7 O7 m7))
    all_goals
     have hK7:=HR.out.1.trans ((Gf.of_below H6.out.1 hbI).trans H7.out.1);have hB7:=((HR.out.2.1.keep H6.out.1:Bk w6 V.heap.size 29 _));have hB8:=H7.out.1.ty _ _ _ hB7 (by decide) (by have:=hq2;omega)
     have HEND:=Hd (Ai hK7 (Ai hB8 H7.out.2.1));clear hK7 hB7 hB8 hT0 hT1 hT1' hT2 hi0 hz0 hz1 hz2 hbd hbI HCL HRW HBA;go_wp2_with fail;go_roundw
     case rel=>exact ⟨k+1,o2 ++ o3,oA3,oc3,by omega,by go_num,HEND.out.1,HEND.out.2.1,by rw [<- List.append_assoc];exact HEND.out.2.2,Hd (by
      rw [List.map_append,HR.out.2.2.2.out,H7.out.2.2,partW_succ,List.map_append,List.map_map]
      congr 1
      refine List.map_congr_left fun x _=>?_
      simp)⟩
     case measure=>simp [intOf];omega
   ·obtain rfl:k=K:=by omega
    have hle:¬ lo+(k:Int)<=hi:=by omega
    have HEND:=Hd (Ai hKW (Ai hOI hmap.out));clear hKW hB5 hOI hmap hKI;go_wp2_with fail;refine bodyPost_end (results_none rfl _ _ _) rfl ?_;exact HP0.out _ o2 oA2 oc2 HEND.out.1 HEND.out.2.1 HEND.out.2.2
theorem Ks:∀ {l:List (Int×Int)},(∀ x∈l,1<=x.1/\x.1<=x.2/\x.2<=255)->((Dj l).length:Int)=Ew l
 | [],_=>rfl
 | h :: l,hl=>by
  have h1:=Ks (l:=l) (fun x hx=>hl x (List.mem_cons_of_mem _ hx))
  have h2:=hl h (List.mem_cons_self ..);rw [worldsL_cons,partW_len,Ew,Int.natCast_mul,h1]
  congr 1
  omega
def WorldsP (D:Ap) (w:World) (e:Ending) (V:World):Prop :=
 Below w.heap.size w V/\∃ (ws:List Eg) (A:Option Addr) (c:Nat),e=.returned (.slice A ws.length c)/\Ad V A (ws.map Eg.val)/\(∀ x∈ws,IntR V x.A x.l)/\ws.map Eg.l=Dj D.hp
theorem worlds_any (D:Ap) (w:World) (hD:D.At w) (hok:D.Ok):Calls Tryz.prog 94 #[.agg D.arr] w (WorldsP D w):=by
 have hlen:=Ks hok.hp;have hwd:=hok.wd;obtain ⟨W,hW⟩:∃ W,(((w.alloc (.cells D.arr 55)).alloc (.cells #[.slice none 0 0] 32)).alloc (.cells #[.func (.func 143) #[] #[.pointer (some ⟨w.heap.size,0,none⟩),.pointer (some ⟨w.heap.size+1,0,none⟩),.pointer (some ⟨w.heap.size+1+1,0,none⟩)]] 259))=W:=⟨_,rfl⟩;have hbW:Below w.heap.size w W:=by rw [<- hW];exact (Ba.alloc (by simp) _).alloc (by simp;omega) _
 have X:Bk W w.heap.size 55 D.arr:=by rw [<- hW];exact ((Aa rfl).alloc _).alloc _
 have Y:Bk W (w.heap.size+1) 32 #[.slice none 0 0]:=by rw [<- hW];exact (Aa (by simp)).alloc _
 have Z:Bk W (w.heap.size+1+1) 259 #[.func (.func 143) #[] #[.pointer (some ⟨w.heap.size,0,none⟩),.pointer (some ⟨w.heap.size+1,0,none⟩),.pointer (some ⟨w.heap.size+1+1,0,none⟩)]]:=by rw [<- hW];exact Aa (by simp)
 have hz:W.heap.size=w.heap.size+3:=by rw [<- hW];simp
 have HFR:=Hd (from_any D W.heap.size w.heap.size (w.heap.size+1) (w.heap.size+1+1) hok.h8 hok.hp D.hp.length [] none 0 [] none 0 W (by simp)
  ⟨⟨by omega,by omega,by omega,by omega,Nat.le_refl _⟩,X,Z,hD.r2.below hbW,fun h0 a ha=>by
   obtain ⟨b',o',e',h',_⟩:=hD.r2 (by rw [Gr];omega)
   rw [ha] at e';injection e' with e'
   subst e';exact ⟨by show b'<_;omega,by show b'≠_;omega⟩⟩
  ⟨⟨by omega,Nat.le_refl _⟩,Y,World.ownsRow_nil _ _ _ _,fun x hx=>(by cases hx)⟩
  ⟨⟨fun h=>(by simp [Ac] at h),fun a ha=>(by cases ha)⟩,⟨Nat.le_refl _,by omega⟩,fun _=>⟨rfl,rfl⟩,.inr rfl,fun a ha=>(by cases ha)⟩
  (by simp;omega))
 simp only [List.length_nil] at HFR;have HW:=Hd hW;have Z3:=Z.cell 0;simp at Z3;have H1:=Hd (Ai hbW hz);clear hW hbW X Y Z hD hok hlen hwd;go_enter Tryz.func94,Tryz.ntmps94;go_upto_region 4 with fail
 rw [HW.out];clear HW;go_upto_region 5 with (go_at_call 143;refine HFR.out.mono ?_;rintro e w1 ⟨rfl,k1,ws,oA,oc,O1,m1⟩;rw [List.nil_append] at O1;have c1:=O1.bk.cell 0;have H2:=Hd (Ai k1 (Ai O1 m1));simp at c1;clear k1 O1 m1)
 clear HFR Z3;go_wp2_with fail;go_ret;have hB:Below w.heap.size w w1:=by
  have k:=H2.out.1;have hz:=H1.out.2;have hb:=H1.out.1;exact ⟨k.os.trans hb.os,k.tape.trans hb.tape,k.output.trans hb.output,Nat.le_trans hb.size k.size,fun i hi=>(k.block i (by omega) (by omega)).trans (hb.block i hi)⟩
 refine ⟨hB,ws,oA,oc,rfl,?_,H2.out.2.1.el,by rw [H2.out.2.2];simp⟩
 exact (Gu H2.out.2.1.ow)
end Go.Proofs.YteihcodicfoiaaaGreat
