/-
  What is proved: the contracts of bounds and of slices.Collect of the bounds of a world.
-/
import Derived.Test.YteihcodicfoiaaaGreatWrHMf
import Derived.Test.YteihcodicfoiaaaGreat29Mf
import Derived.Test.YteihcodicfoiaaaGreat32Mf
import Derived.Test.YteihcodicfoiaaaGreatTellMf
namespace Go.Proofs.YteihcodicfoiaaaGreat
set_option maxRecDepth 100000
set_option maxHeartbeats 8000000
open Go Go.RowKit
attribute [local go_sem] Oper.semAt_some
def Cz (L:List Ao):List Value:=L.flatMap Ao.cells
theorem bndCells_len (L:List Ao):(Cz L).length=L.length*7:=Ci _ 7 (fun _=>rfl) L
theorem info319:(Tryz.prog.info? 319).map (fun i=>(i.zero,i.size,i.bytes))=some (some (.agg #[.int .i64 0,.int .i64 0,.int .i64 0,.int .i64 0,.int .i64 0,.int .i64 0,.int .i64 0]),7,56):=by kernel_rfl
theorem KpB.grown {n₀:Nat} {V V':World} {row:Option Nat} (hg:V.grownBy V' row) (hn:n₀<=V.heap.size) (hr:∀ r,row=some r->n₀<=r/\∃ cs,Bk V r 319 cs):KpB n₀ V V':=by
 refine ⟨⟨hg.os,hg.tape,hg.output,hg.size,fun k hk=>hg.block k (by omega) fun e=>?_⟩,fun k cs t r ht hk=>(hg.block k (Array.getElem?_eq_some_iff.1 hk).1 fun e=>?_).trans hk⟩
 ·have:=(hr k e.symm).1;omega
 ·obtain ⟨cs',h2⟩:=(hr k e.symm).2;have:=hk.symm.trans h2;rcases ht with rfl | rfl | rfl<;>simp at this
theorem KpB.store {n₀ q:Nat} {V:World} {cs:Array Value} (hq:Bk V q 208 cs) (hn:n₀<=q) (u:Value):KpB n₀ V (V.setCell ⟨q,0,none⟩ u):=by
 refine ⟨(Below.refl n₀ V).setCell (p:=⟨q,0,none⟩) hn u,fun k cs' t r ht hk=>(Below.heap_setCell V ⟨q,0,none⟩ u k fun e=>?_).trans hk⟩
 have e':k=q:=e;subst e';have:=hk.symm.trans hq;rcases ht with rfl | rfl | rfl<;>simp at this
theorem KpB.put {n₀:Nat} {W:World} (l:Nat) (o o':Obj) (hl:n₀<=l) (h:W.heap[l]?=some o) (hc:o.isCells=false):KpB n₀ W (W.putObj l o'):=by
 refine ⟨(Below.refl n₀ W).grown (grownBy_putObj' W l o') (by have:=(Array.getElem?_eq_some_iff.1 h).1;omega) (fun k e=>by cases e;omega),fun k cs t r _ hk=>(World.putObj_heap_other fun e=>?_).trans hk⟩
 subst e;rw [hk] at h;cases h;cases hc
structure ColB (w:World) (B q:Nat) (pre:List Ao) (W:World):Prop where
 ex:∃ (A:Option Addr) (c:Nat),Bk W q 208 #[.slice A pre.length c]/\W.ownsRow B 319 7 (.slice A pre.length c) pre.length (Cz pre)
 b:Below w.heap.size w W
 z:B<=W.heap.size
theorem ColB.below {w:World} {B q:Nat} {pre:List Ao} {X Y:World} (h:ColB w B q pre X) (hb:Below X.heap.size X Y):ColB w B q pre Y:=by
 obtain ⟨⟨A,c,h1,h2⟩,h3,h4⟩:=h;exact ⟨⟨A,c,h1.keep hb,Ca h2 hb⟩,h3.trans (hb.mono h3.size),Nat.le_trans h4 hb.size⟩
theorem ColB.push {w:World} {B q:Nat} {pre:List Ao} {X Y:World} {A:Option Addr} {c:Nat} (hq:Bk X q 208 #[.slice A pre.length c]) (ho:X.ownsRow B 319 7 (.slice A pre.length c) pre.length (Cz pre)) (hb:Below w.heap.size w X) (hz:B<=X.heap.size) (hq2:w.heap.size<=q/\q<B/\w.heap.size<=B)
  {x:Ao} {A':Option Addr} {c':Nat} (hown:Y.ownsRow B 319 7 (.slice A' (pre.length+1) c') (pre.length+1) (Cz pre ++ x.cells)) (hg:X.grownBy Y (Value.slice A pre.length c).ownBlock) :
  ColB w B q (pre ++ [x]) (Y.setCell ⟨q,0,none⟩ (.slice A' (pre.length+1) c'))/\KpB w.heap.size X (Y.setCell ⟨q,0,none⟩ (.slice A' (pre.length+1) c'))/\KeepsOthers X (Y.setCell ⟨q,0,none⟩ (.slice A' (pre.length+1) c')):=by
 have hkp:KpB w.heap.size X Y:=KpB.grown hg hb.size fun r hr=>⟨by have:=(ho.lt r hr).1;omega,Ck ho hr⟩
 have hqY:Bk Y q 208 #[.slice A pre.length c]:=(hg.block q hq.lt (Bl ho hq (by decide))).trans hq
 have hk2:=hkp.trans (KpB.store hqY hq2.1 (.slice A' (pre.length+1) c'));have e1:(pre ++ [x]).length=pre.length+1:=by simp
 refine ⟨⟨⟨A',c',?_,?_⟩,hb.trans hk2.1,Nat.le_trans hz hk2.1.size⟩,hk2,(Ja ho hg).trans (KeepsOthers.setCell _ _ _)⟩
 ·rw [e1];exact hqY.put 0 (.slice A' (pre.length+1) c')
 ·rw [e1,show Cz (pre ++ [x])=Cz pre ++ x.cells by simp [Cz]]
  refine own_far hown (fun e=>?_) _
  have:=(hown.lt q e).1;omega
def ColP (L:List Ao) (w:World) (e:Ending) (V:World):Prop :=
 Below w.heap.size w V/\∃ (A:Option Addr) (c:Nat),e=.returned (.slice A L.length c)/\Ad V A (Cz L)
theorem appendSeq_any (q1 q2:Nat) (D:Ap) (hD:D.Ok) (wd:List Int) (hwl:wd.length=D.hp.length) (hwr:∀ i,0<=wd.getD i 0/\wd.getD i 0<=255) (A:Option Addr) (cA:Nat) (w:World) (hAt:D.At w) (hA:Ad w A (Ac wd))
  (hb1:Bk w q1 55 D.arr) (hb2:Bk w q2 22 #[.slice A wd.length cA]) :
  Calls Tryz.prog 218 #[.slice none 0 0,.func (.func 219) #[] #[.pointer (some ⟨q1,0,none⟩),.pointer (some ⟨q2,0,none⟩)]] w (ColP (Ae D wd) w):=by
 obtain ⟨W,hW⟩:∃ W,w.alloc (.cells #[.slice none 0 0] 208)=W:=⟨_,rfl⟩;have hbW:Below w.heap.size w W:=by rw [<- hW];exact Ba
 have X:Bk W w.heap.size 208 #[.slice none 0 0]:=by rw [<- hW];exact Aa rfl
 have HES:=Hd (bounds_stops (3 - 1) q1 q2 D hD wd hwl hwr A cA w W hAt hA hb1 hb2 hbW);have hXl:=X.lt;have HC0:Hid (ColB w W.heap.size w.heap.size [] W):=Hd ⟨⟨none,0,X,World.ownsRow_nil _ _ _ _⟩,hbW,Nat.le_refl _⟩;have HW:=Hd hW;obtain ⟨i0,hi0,hz0,hz1,hz2⟩:=info_parts info319;clear hW hbW X hAt hA hb1 hb2 hD hwl hwr;refine (callsIn_wide (n:=3)).1 ?_;refine callsIn_of_wp_marks Tryz.func218 rfl trivial ?_ rfl;simp only [Tryz.ntmps218,List.size_toArray,List.length_cons,List.length_nil,Nat.reduceAdd,Nat.reduceSub,Array.replicate_succ,Array.replicate_zero,List.push_toArray,List.append_toArray,List.nil_append,List.cons_append];refine wpIn_wide.2 ?_;go_upto_region 1 with fail
 rw [HW.out];clear HW;go_wp2_with fail;refine (wpIn_wide (n:=3)).1 ?_;refine wpIn_rangeFunc_ownH rfl (by omega) (gf:=219) (lb:=#[.pointer (some ⟨q1,0,none⟩),.pointer (some ⟨q2,0,none⟩)]) rfl trivial (enters_of Tryz.func219 (by kernel_rfl) rfl)
  (encs:=encB) (Kp:=KpB w.heap.size) (S:=fun xs=>xs=Ae D wd) (Sp:=fun _=>True) (N:=1000) (w0:=W)
  HES.out ?k1 ?k2 (Below.refl _ _) (fun _=>rfl)
  (fun pre W'=>ColB w W.heap.size w.heap.size pre W')
  (fun _ _ _=>False)
  ?I ?Ix HC0.out
  (fun x a' W'=>∃ q7,W.heap.size<=q7/\Bk W' q7 319 x.cells.toArray/\a' = { tmps:=#[.slice none 0 0,.func (.func 219) #[] #[.pointer (some ⟨q1,0,none⟩),.pointer (some ⟨q2,0,none⟩)],.pointer (some ⟨w.heap.size,0,none⟩),undef,.slice none 0 0,.pointer (some ⟨q7,0,none⟩),.func (.func 219) #[] #[.pointer (some ⟨q1,0,none⟩),.pointer (some ⟨q2,0,none⟩)],.agg x.cells.toArray,undef,undef,undef,undef,undef],defers:=[] })
  ?Ax ?assign ?body ?done ?stop
 case k1=>exact fun h k=>h.trans k
 case k2=>exact fun X l' o o' hl hX hc _=>KpB.put l' o o' (by omega) hX hc
 case I =>
  rintro pre X X' row ⟨⟨A',c',h1,h2⟩,h3,h4⟩ hg hr;refine ⟨⟨A',c',h1.grown hg (fun e=>by have:=(hr _ e.symm).1;omega),?_⟩,h3.grown hg h3.size (fun r e=>by have:=(hr r e).1;omega),Nat.le_trans h4 hg.size⟩
  refine Bt h2 hg fun k hk e=>?_
  obtain ⟨cs,hb⟩:=Ck h2 hk;obtain ⟨o,ho,hc⟩:=(hr k e).2;have:=hb.symm.trans ho;simp at this;rw [<- this] at hc;simp [Obj.isCells] at hc
 case Ix=>exact fun _ _ _ _ _ h _ _=>h
 case Ax =>
  rintro x a' _ X X' row ⟨q7,h1,h2,h3⟩ hg hr;refine ⟨q7,h1,h2.grown hg (fun e=>?_),h3⟩
  obtain ⟨o,ho,hc⟩:=(hr _ e.symm).2;have:=h2.symm.trans ho;simp at this;rw [<- this] at hc;simp [Obj.isCells] at hc
 case assign =>
  rintro l' pre x X K hC hKK;have hz:=hC.z;have hBa:Below X.heap.size X (X.alloc (.cells x.cells.toArray 319)):=Ba;have Y:Bk (X.alloc (.cells x.cells.toArray 319)) X.heap.size 319 x.cells.toArray:=Aa rfl;have HX:=Hd (Ai hBa Y);have HCC:=Hd hC;clear hBa Y hC;unfold encB Ao.cells;gi_wp2;exact hKK _ _ ((KeepsOthers.alloc _ _).from _) (KpB.of_below HX.out.1 HCC.out.b.size) (HCC.out.below HX.out.1) ⟨X.heap.size,hz,HX.out.2,rfl⟩
 case body =>
  rintro l' pre x a' X hlz hrec ⟨⟨A',c',h1,h2⟩,h3,h4⟩ ⟨q7,hq7,Y7,rfl⟩ hlt;have y0:=h1.cell 0;have z0:=Y7.cell 0;have z1:=Y7.cell 1;have z2:=Y7.cell 2;have z3:=Y7.cell 3;have z4:=Y7.cell 4;have z5:=Y7.cell 5;have z6:=Y7.cell 6;simp [Ao.cells] at y0 z0 z1 z2 z3 z4 z5 z6;have HX:=Hd (Ai h1 (Ai h2 (Ai h3 h4)));have hlx:=h1.lt;have hwB:w.heap.size<W.heap.size:=hXl;have HB:Hid (Below X.heap.size X (X.alloc (.cells x.cells.toArray 319))):=Ba;clear h1 h2 h3 h4 Y7 hrec HES HC0;unfold Ao.cells;gi_wp2_with (gi_at_builtin;refine wpListIn_append_own _ rfl _ _ 208 rfl W.heap.size 319 i0 _ 7 56 Tryz.underlying208 hi0 hz0 hz1 hz2 rfl (by decide) (.slice A' pre.length c') pre.length (Cz pre) rfl (Ca HX.out.2.1 HB.out) ⟨X.heap.size,0,none⟩ 1 1 x.cells rfl rfl (Gb (Aa rfl)) (by simp [Value.oneCell',Ao.cells]) (by unfold maxLen;omega) (by omega) (by have:=HX.out.2.2.2;simp;omega) ?_;intro v6 w6 hown6 hg6 _;obtain ⟨A6,c6,rfl,_,_,_⟩:=Au hown6;have HE:=Hd (ColB.push (HX.out.1.keep HB.out) (Ca HX.out.2.1 HB.out) (HX.out.2.2.1.trans (HB.out.mono HX.out.2.2.1.size)) (Nat.le_trans HX.out.2.2.2 HB.out.size) ⟨Nat.le_refl _,hwB,by omega⟩ hown6 hg6);have B6:Bk w6 w.heap.size 208 #[.slice A' pre.length c']:=(hg6.block w.heap.size (HX.out.1.keep HB.out).lt (Bl (Ca HX.out.2.1 HB.out) (HX.out.1.keep HB.out) (by decide))).trans (HX.out.1.keep HB.out);have c4:=B6.cell 0;have f4:=B6.fz 0;have l4:=B6.lt;simp at c4;clear B6 hown6 hg6)
  exact ⟨((Dz HB.out).trans HE.out.2.2).from _,(KpB.of_below HB.out HX.out.2.2.1.size).trans HE.out.2.1,HE.out.1⟩
 case done =>
  rintro DD xs X hD rfl ⟨⟨A',c',h1,h2⟩,h3,h4⟩ hK;have y0:=h1.cell 0;simp at y0;have HX:=Hd (Ai h1 (Ai h2 (Ai h3 hK)));clear h1 h2 h3 h4 hK HES HC0;gi_wp2;go_wp2_with fail;refine ⟨by simp,.inl ⟨_,_,rfl,run_takeDeferred HX.out.2.2.2,?_⟩⟩
  have hg:=grownBy_putObj' X DD (.deferred none);have hne:∀ k,(Value.slice A' (Ae D wd).length c').ownBlock=some k->some DD≠some k:=fun k hk e=>by
   injection e with e
   subst e;obtain ⟨cs,hb⟩:=Ck HX.out.2.1 hk;have:=hb.symm.trans HX.out.2.2.2;cases this
  exact ⟨.slice A' (Ae D wd).length c',by simp [results,Tryz.results218,go_sem],HX.out.2.2.1.grown hg HX.out.2.2.1.size (fun r e=>by injection e with e;omega),A',c',rfl,Gu (Bt HX.out.2.1 hg hne)⟩
 case stop=>exact fun _ _ _ _ _ _ h _=>h.elim
theorem bounds_any (D:Ap) (A:Option Addr) (n cA:Nat) (w:World) :
  Calls Tryz.prog 191 #[.agg D.arr,.slice A n cA] w fun e w'=>e=.returned (.func (.func 219) #[] #[.pointer (some ⟨w.heap.size,0,none⟩),.pointer (some ⟨w.heap.size+1,0,none⟩)])/\
   Bk w' w.heap.size 55 D.arr/\Bk w' (w.heap.size+1) 22 #[.slice A n cA]/\Below w.heap.size w w':=by
 obtain ⟨W,hW⟩:∃ W,(w.alloc (.cells D.arr 55)).alloc (.cells #[.slice A n cA] 22)=W:=⟨_,rfl⟩;have hbW:Below w.heap.size w W:=by rw [<- hW];exact Ba.alloc (by simp) _
 have X:Bk W w.heap.size 55 D.arr:=by rw [<- hW];exact (Aa rfl).alloc _
 have Y:Bk W (w.heap.size+1) 22 #[.slice A n cA]:=by rw [<- hW];exact Aa (by simp)
 have HW:=Hd hW;unfold Ap.arr at *;clear hW;go_enter Tryz.func191,Tryz.ntmps191;go_upto_region 1 with fail
 rw [HW.out];clear HW;go_wp2_with fail;go_ret;exact ⟨rfl,X,Y,hbW⟩
theorem collect_any (q1 q2:Nat) (D:Ap) (hD:D.Ok) (wd:List Int) (hwl:wd.length=D.hp.length) (hwr:∀ i,0<=wd.getD i 0/\wd.getD i 0<=255) (A:Option Addr) (cA:Nat) (w:World) (hAt:D.At w) (hA:Ad w A (Ac wd))
  (hb1:Bk w q1 55 D.arr) (hb2:Bk w q2 22 #[.slice A wd.length cA]) :
  Calls Tryz.prog 190 #[.func (.func 219) #[] #[.pointer (some ⟨q1,0,none⟩),.pointer (some ⟨q2,0,none⟩)]] w (ColP (Ae D wd) w):=by
 have H:=Hd (appendSeq_any q1 q2 D hD wd hwl hwr A cA w hAt hA hb1 hb2);clear hD hwl hwr hAt hA hb1 hb2;go_enter Tryz.func190,Tryz.ntmps190;go_wp2_with (go_at_call 218;refine H.out.mono ?_;rintro e w1 ⟨hb1,A1,c1,rfl,hr1⟩);go_ret;exact ⟨hb1,A1,c1,rfl,hr1⟩
end Go.Proofs.YteihcodicfoiaaaGreat
