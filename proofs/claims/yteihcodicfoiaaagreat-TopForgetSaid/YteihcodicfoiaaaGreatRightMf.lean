/-
  What is proved: the contract of right, for a register that is right.
-/
import Derived.Test.YteihcodicfoiaaaGreatConcatMf
import Derived.Test.YteihcodicfoiaaaGreatFormedMf
namespace Go.Proofs.YteihcodicfoiaaaGreat
set_option maxRecDepth 100000
set_option maxHeartbeats 16000000
open Go Go.RowKit
open Go.ChangeMaps (setBlock)
structure RightOk (f:FrD) (H E:List EvD):Prop where
 h8:H.length<=8
 e400:E.length<=400
 ok:∀ e∈H ++ E,Gw e.note=true/\Ar f e.note=true/\e.note.name=(e.eh,e.en)
 nodup:((H ++ E).map fun e=>(e.eh,e.en)).Nodup
 hk:∀ e∈H,e.note.kind=1
 ek:∀ e∈E,e.note.kind≠1/\(e.note.kind=2->Hg H e.note.rh e.note.rn=0)
theorem und165:Tryz.prog.underlying 165=some (.map 66 4):=by kernel_rfl
theorem zero4 (w:World):(zeroValue 4).run Tryz.prog w=.ok (.bool false) w:=by kernel_rfl
theorem look165 {w:World} {g:Nat} {f:Br} (h:Bv w g f) (a b:Int) (hn:(a,b) ∉ f.map Prod.fst) :
  (Instr.lookup 165 (.map (some g)) (.agg #[.int .i64 a,.int .i64 b]) false).run Tryz.prog w=.ok (.bool false) w:=by
 obtain ⟨es,c,hg,hf⟩:=h;have:=Kv name66 und165 zero4 a b g es c w f hg hf false;rw [(lookF_none f (a,b)).2 hn] at this;exact this
theorem upd165 {w:World} {g:Nat} {f:Br} (h:Bv w g f) (a b:Int) (v:Value) :
  ∃ w',(Instr.mapUpdate 165 (.map (some g)) (.agg #[.int .i64 a,.int .i64 b]) v).run Tryz.prog w=.ok () w'/\Bv w' g (setF f (a,b) v)/\(∀ k,k≠g->w'.heap[k]?=w.heap[k]?)/\w'.heap.size=w.heap.size/\w'.os=w.os/\w'.tape=w.tape/\w'.output=w.output:=by
 obtain ⟨es,c,hg,hf⟩:=h;obtain ⟨es',c',h1,h2⟩:=run_updateF name66 und165 a b v g es c w f hg hf;refine ⟨_,h1,⟨es',c',?_,h2⟩,fun k hk=>Fj hk _,Gs _ _ _,rfl,rfl,rfl⟩
 have:=(Array.getElem?_eq_some_iff.1 hg).1;simp [setBlock,this]
def seenF (l:List EvD):Br:=l.map fun e=>((e.eh,e.en),.bool true)
theorem seenF_keys (l:List EvD):(seenF l).map Prod.fst=l.map fun e=>(e.eh,e.en):=by simp [seenF]
theorem seenF_new {l:List EvD} (h:(l.map fun e=>(e.eh,e.en)).Nodup) {k:Nat} (hk:k<l.length):((l.getD k ev0).eh,(l.getD k ev0).en) ∉ (seenF (l.take k)).map Prod.fst:=by
 rw [seenF_keys];intro hm;obtain ⟨x,hx,he⟩:=List.mem_map.1 hm;obtain ⟨i,hi,rfl⟩:=List.getElem_of_mem hx;rw [List.length_take] at hi;rw [List.getElem_take,Aj _ _ hk] at he;have h5:(l.map fun e=>(e.eh,e.en))[i]'(by simp;omega)=(l.map fun e=>(e.eh,e.en))[k]'(by simpa using hk):=by simpa using he
 have:=(List.getElem_inj h).1 h5;omega
theorem seenF_step {l:List EvD} (h:(l.map fun e=>(e.eh,e.en)).Nodup) {k:Nat} (hk:k<l.length):setF (seenF (l.take k)) ((l.getD k ev0).eh,(l.getD k ev0).en) (.bool true)=seenF (l.take (k+1)):=by
 have e:l.take (k+1)=l.take k ++ [l.getD k ev0]:=by rw [List.take_add_one,List.getElem?_eq_getElem hk,Aj _ _ hk];rfl
 rw [setF_new (seenF_new h hk),e];unfold seenF;rw [List.map_append];rfl
attribute [local go_sem ↓] Cd Kg Dm Bu store_at70 Dh
theorem isHeap_any (e:EvD) (w:World):Calls Tryz.prog 74 #[.agg e.cells.toArray] w fun r w'=>r=.returned (.bool (e.note.kind == 1))/\Below w.heap.size w w':=by
 obtain ⟨W,hW⟩:∃ W,w.alloc (.cells e.cells.toArray 70)=W:=⟨_,rfl⟩;have hbW:Below w.heap.size w W:=by rw [<- hW];exact Ba
 have X:Bk W w.heap.size 70 e.cells.toArray:=by rw [<- hW];exact Aa rfl
 have x6:=X.cell 6;simp [EvD.cells,Ab.arr] at x6;have HW:=Hd hW;clear hW X;go_enter Tryz.func74,Tryz.ntmps74;go_upto_region 1 with fail
 rw [HW.out];clear HW;go_wp2_with fail;go_ret;exact ⟨rfl,hbW⟩
theorem right2_any (e:EvD) (H:List EvD) (A1 A2 A3:Option Addr) (c1 n2 c2 n3 c3 q q':Nat) (w:World) (hq:Bk w q 49 #[.slice A1 H.length c1,.slice A2 n2 c2,.slice A3 n3 c3]) (hq':Bk w q' 169 #[.func (.func 74) #[] #[]]) (hrow:Ad w A1 (Ak H)) (hH:H.length<=400)
  (h1:e.note.kind≠1) (h2:e.note.kind=2->Hg H e.note.rh e.note.rn=0) :
  Calls Tryz.prog 76 #[.agg e.cells.toArray,.pointer (some ⟨q,0,none⟩),.pointer (some ⟨q',0,none⟩)] w fun r w'=>r=.returned (.bool false)/\Below w.heap.size w w':=by
 obtain ⟨W,hW⟩:∃ W,w.alloc (.cells e.cells.toArray 70)=W:=⟨_,rfl⟩;have hbW:Below w.heap.size w W:=by rw [<- hW];exact Ba
 have X:Bk W w.heap.size 70 e.cells.toArray:=by rw [<- hW];exact Aa rfl
 have x18:=X.cell 18;have x19:=X.cell 19;simp [EvD.cells,Ab.arr] at x18 x19;have HH:=Hd (HeapOf_any H A1 A2 A3 c1 n2 c2 n3 c3 e.note.rh e.note.rn W (hrow.below hbW) (by omega))
 unfold Dv at HH;have l49:=Ct (hq.keep hbW) rfl;have HX:=Hd (Ai X (hq'.keep hbW));have HW:=Hd hW;have H2:=Hd h2;generalize Ki H e.note.rh e.note.rn=vn at *;generalize Hg H e.note.rh e.note.rn=ve at *;clear hW X hq hq' hrow h2;go_enter Tryz.func76,Tryz.ntmps76;go_upto_region 1 with fail
 rw [HW.out];clear HW;go_wp2_with fail;refine HH.out.mono ?_;rintro r w1 ⟨rfl,hb1⟩;have X1:=HX.out.1.keep hb1;have y0:=(HX.out.2.keep hb1).cell 0;have x6:=X1.cell 6;simp [EvD.cells,Ab.arr] at x6 y0;have l70:=Fg e X1;have HI:=Hd (isHeap_any e w1);have HB:=Hd (Ai X1 (hbW.trans (hb1.mono hbW.size)));have k1:(e.note.kind == 1)=false:=by simpa using h1
 rw [k1] at HI;clear l49 x18 x19 HH X1 hb1
 by_cases h2:e.note.kind=2
 ·have k2:(e.note.kind == 2)=true:=by simpa using h2
  have hve:=H2.out h2;subst hve;go_wp2_with (go_at_call 74;refine HI.out.mono ?_;rintro r w2 ⟨rfl,hb2⟩;have x6:=(HB.out.1.keep hb2).cell 6;simp [EvD.cells,Ab.arr] at x6);go_ret;exact ⟨rfl,HB.out.2.trans (hb2.mono HB.out.2.size)⟩
 ·have k2:(e.note.kind == 2)=false:=by simpa using h2
  go_wp2_with (go_at_call 74;refine HI.out.mono ?_;rintro r w2 ⟨rfl,hb2⟩;have x6:=(HB.out.1.keep hb2).cell 6;simp [EvD.cells,Ab.arr] at x6);go_ret;exact ⟨rfl,HB.out.2.trans (hb2.mono HB.out.2.size)⟩
attribute [local go_sem] makeMap_run
theorem right_any (f:FrD) (hf:f.Ok) (H E:List EvD) (A1 A2 A3:Option Addr) (c1 c2 n3 c3:Nat) (w:World) (hR:RightOk f H E) (r1:Gg w A1 H) (r2:Gg w A2 E) (hst:∀ e∈H ++ E,e.note.strokes.length<=200) :
  Calls Tryz.prog 35 #[f.val,Dv A1 H.length c1 A2 E.length c2 A3 n3 c3] w fun e w'=>e=.returned (.bool true)/\Below w.heap.size w w':=by
 unfold Dv;obtain ⟨N,hN⟩:∃ N,N=H.length+E.length:=⟨_,rfl⟩;obtain ⟨M,hM⟩:∃ M,M=H ++ E:=⟨_,rfl⟩;have hMN:M.length=N:=by rw [hM,hN];simp
 have h8:=hR.h8;have h400:=hR.e400;have HFM:=Hd (fun (k:Nat) (hk:k<N) (X:World) (hX:Below w.heap.size w X)=>(show Calls Tryz.prog 72 #[f.val,.agg (M.getD k ev0).note.arr] X fun e w'=>e=.returned (.bool true)/\Below X.heap.size X w' from by
  have hm:M.getD k ev0∈H ++ E:=by rw [<- hM];exact Cg ev0 (by omega)
  have:=formed_any f (M.getD k ev0).note X hf ((show (M.getD k ev0).note.At w from by
   rcases List.mem_append.1 hm with h | h
   ·exact r1.str _ h
   ·exact r2.str _ h).below hX) (by have:=hst _ hm;omega)
  rwa [(hR.ok _ hm).2.1] at this))
 have HDN:=Hd (fun (k:Nat) (hk:k<N) (X:World)=>(show Calls Tryz.prog 71 #[.agg (M.getD k ev0).note.arr] X fun e w'=>e=.returned (.bool true)/\Below X.heap.size X w' from by
  have hm:M.getD k ev0∈H ++ E:=by rw [<- hM];exact Cg ev0 (by omega)
  have:=done_any (M.getD k ev0).note X
  rwa [show inB (M.getD k ev0).note.kind 1 4=true from (hR.ok _ hm).1] at this))
 have HNM:Hid (∀ k,k<N->(M.getD k ev0).note.house=(M.getD k ev0).eh/\(M.getD k ev0).note.num=(M.getD k ev0).en):=Hd fun k hk=>by
  have hm:M.getD k ev0∈H ++ E:=by rw [<- hM];exact Cg ev0 (by omega)
  have:=(hR.ok _ hm).2.2;unfold Ab.name at this;injection this with a b
  exact ⟨a,b⟩
 have HND:Hid ((M.map fun e=>(e.eh,e.en)).Nodup):=Hd (by rw [hM];exact hR.nodup)
 have HHK:=Hd hR.hk;have HEK:=Hd hR.ek;obtain ⟨W,hW⟩:∃ W,(w.alloc (.cells #[.int .i64 f.rings,.int .i64 f.sec,.int .i64 f.wide] 112)).alloc (.cells #[.slice A1 H.length c1,.slice A2 E.length c2,.slice A3 n3 c3] 49)=W:=⟨_,rfl⟩;have hbW:Below w.heap.size w W:=by rw [<- hW];exact Ba.alloc (by simp) _
 have X:Bk W w.heap.size 112 #[.int .i64 f.rings,.int .i64 f.sec,.int .i64 f.wide]:=by rw [<- hW];exact (Aa rfl).alloc _
 have Y:Bk W (w.heap.size+1) 49 #[.slice A1 H.length c1,.slice A2 E.length c2,.slice A3 n3 c3]:=by rw [<- hW];exact Aa (by simp)
 have y0:=Y.cell 0;have y1:=Y.cell 1;simp at y0 y1;have hgs:(W.alloc (.map #[] 0)).heap.size=W.heap.size+1:=by simp
 have hb2:Below W.heap.size W ((W.alloc (.map #[] 0)).alloc (.cells #[.slice A1 H.length c1,.slice A2 E.length c2] 46)):=Ba.alloc (by simp) _
 have hBW2:=hbW.trans (hb2.mono hbW.size);have HCC:=Hd (Concat_any (W.heap.size+1) 2 c1 c2 A1 A2 H E ((W.alloc (.map #[] 0)).alloc (.cells #[.slice A1 H.length c1,.slice A2 E.length c2] 46)) (Aa hgs) (r1.row.below hBW2) (r2.row.below hBW2) h8 h400);have HX:=Hd (show Bk ((W.alloc (.map #[] 0)).alloc (.cells #[.slice A1 H.length c1,.slice A2 E.length c2] 46)) w.heap.size 112 #[.int .i64 f.rings,.int .i64 f.sec,.int .i64 f.wide]/\Bk ((W.alloc (.map #[] 0)).alloc (.cells #[.slice A1 H.length c1,.slice A2 E.length c2] 46)) (w.heap.size+1) 49 #[.slice A1 H.length c1,.slice A2 E.length c2,.slice A3 n3 c3]/\Below w.heap.size w ((W.alloc (.map #[] 0)).alloc (.cells #[.slice A1 H.length c1,.slice A2 E.length c2] 46))/\Bv ((W.alloc (.map #[] 0)).alloc (.cells #[.slice A1 H.length c1,.slice A2 E.length c2] 46)) W.heap.size (seenF (M.take 0))/\Ad w A1 (Ak H)/\Ad w A2 (Ak E) from
  ⟨X.keep hb2,Y.keep hb2,hBW2,(Bv.nil W).alloc _,r1.row,r2.row⟩)
 have hw1:w.heap.size+1<W.heap.size:=Y.lt;have HW:=Hd hW;have HM:=Hd (Ai hM (Ai hN hMN));clear hW X Y hbW hb2 hBW2 r1 r2 hst hR hM hN hMN;unfold FrD.val at *;go_enter Tryz.func35,Tryz.ntmps35;go_upto_region 1 with fail
 rw [HW.out];clear HW;go_wp2_with fail;generalize (W.alloc _).alloc _=W1 at *;generalize W.heap.size=gm at *;refine HCC.out.mono ?_;rintro e w2 ⟨⟨v,rfl,hown⟩,hb3⟩;rw [<- HM.out.1,<- HM.out.2.1] at hown;obtain ⟨A5,c5,rfl,_,hrow5,_⟩:=Au hown;have HA5:Hid (∀ a,A5=some a->gm<a.block):=Hd fun a ha=>by have:=(Kc hown a ha).1;have:=HX.out.2.2.2.1.lt;omega
 have H0:=Hd (show Below w.heap.size w w2/\Bk w2 w.heap.size 112 #[.int .i64 f.rings,.int .i64 f.sec,.int .i64 f.wide]/\Bk w2 (w.heap.size+1) 49 #[.slice A1 H.length c1,.slice A2 E.length c2,.slice A3 n3 c3]/\Bv w2 gm (seenF (M.take 0))/\Ad w2 A5 (Ak M) from ⟨HX.out.2.2.1.trans (hb3.mono HX.out.2.2.1.size),HX.out.1.keep hb3,HX.out.2.1.keep hb3,HX.out.2.2.2.1.below hb3,hrow5⟩)
 have hN9:N<=408:=by have:=HM.out.2.1;omega
 clear hown hb3 hrow5 HCC y0 y1;go_wp2_with fail;go_loopw [29] (fun i wr=>∃ k:Nat,k<=N/\i=.int .i64 k/\Hid (Below w.heap.size w wr/\Bk wr w.heap.size 112 #[.int .i64 f.rings,.int .i64 f.sec,.int .i64 f.wide]/\Bk wr (w.heap.size+1) 49 #[.slice A1 H.length c1,.slice A2 E.length c2,.slice A3 n3 c3]/\Bv wr gm (seenF (M.take k))/\Ad wr A5 (Ak M))) (fun i _=>N - (intOf i).toNat)
 case atStart=>exact ⟨0,Nat.zero_le _,rfl,H0⟩
 case round =>
  clear H0;obtain ⟨k,hk,rfl,HI⟩:=hrel
  by_cases hlt:k<N
  ·have hkI:(k:Int)<N:=by omega
   have hkM:k<M.length:=by rw [HM.out.2.2];exact hlt
   obtain ⟨b5,o5,hA5,hb5,hc5⟩:=ev_loads HI.out.2.2.2.2 (by omega)
   have l0:=hc5 k hkM;have hnn:=HNM.out k hlt;have HNEW:Hid (((M.getD k ev0).eh,(M.getD k ev0).en) ∉ (seenF (M.take k)).map Prod.fst):=Hd (seenF_new HND.out hkM);have HSTP:Hid (setF (seenF (M.take k)) ((M.getD k ev0).eh,(M.getD k ev0).en) (.bool true)=seenF (M.take (k+1))):=Hd (seenF_step HND.out hkM);have HF1:=Hd (HFM.out k hlt);have HD1:=Hd (HDN.out k hlt);have HA5q:=Hd hA5;rw [hA5];clear hA5 hc5 hkM;generalize M.getD k ev0=ev at *;obtain ⟨q7,hq7⟩:∃ q,wr.heap.size=q:=⟨_,rfl⟩;have s1:=Be (ty:=70) (cs:=ev.cells.toArray) (Aa (w:=wr) (t:=70) (cs:=z70) hq7) (by kernel_rfl) rfl (by rw [<- Array.all_toList,List.all_eq_true];exact fun v hv=>Jr _ v (by simpa using hv))
   have Y7:Bk ((wr.alloc (.cells z70 70)).setRow q7 ev.cells.toArray) q7 70 ev.cells.toArray:=Bj (Aa hq7) _;have hB7:Below wr.heap.size wr ((wr.alloc (.cells z70 70)).setRow q7 ev.cells.toArray):=Aq Ba (by omega) _
   have HI7:=Hd (show Bk ((wr.alloc (.cells z70 70)).setRow q7 ev.cells.toArray) q7 70 ev.cells.toArray/\Below w.heap.size w ((wr.alloc (.cells z70 70)).setRow q7 ev.cells.toArray)/\Bk ((wr.alloc (.cells z70 70)).setRow q7 ev.cells.toArray) w.heap.size 112 #[.int .i64 f.rings,.int .i64 f.sec,.int .i64 f.wide]/\Bk ((wr.alloc (.cells z70 70)).setRow q7 ev.cells.toArray) (w.heap.size+1) 49 #[.slice A1 H.length c1,.slice A2 E.length c2,.slice A3 n3 c3]/\Bv ((wr.alloc (.cells z70 70)).setRow q7 ev.cells.toArray) gm (seenF (M.take k))/\Ad ((wr.alloc (.cells z70 70)).setRow q7 ev.cells.toArray) A5 (Ak M) from
    ⟨Y7,HI.out.1.trans (hB7.mono HI.out.1.size),HI.out.2.1.keep hB7,HI.out.2.2.1.keep hB7,HI.out.2.2.2.1.below hB7,HI.out.2.2.2.2.below hB7⟩)
   clear Y7 hB7 HI;go_upto_region 7 with fail
   clear s1 l0 hq7;generalize (wr.alloc _).setRow _ _=V at *;have le:=fun x:Ext V=>evnote_eq ev (HI7.out.1.keep x.bel)
   have n0:=fun x:Ext V=>(Kr (HI7.out.1.keep x.bel)).1
   have n1:=fun x:Ext V=>(Kr (HI7.out.1.keep x.bel)).2
   have z0:=HI7.out.2.2.1.cell 0;have z1:=HI7.out.2.2.1.cell 1;have z2:=HI7.out.2.2.1.cell 2;simp at z0 z1 z2;replace z0:=fun x:Ext V=>Ag x.bel z0
   replace z1:=fun x:Ext V=>Ag x.bel z1
   replace z2:=fun x:Ext V=>Ag x.bel z2
   have KF:Hid (∀ x:Ext V,Calls Tryz.prog 72 #[.agg #[.int .i64 f.rings,.int .i64 f.sec,.int .i64 f.wide],.agg ev.note.arr] x.w fun e w'=>e=.returned (.bool true)/\Below x.w.heap.size x.w w'):=fun x=>HF1.out x.w (HI7.out.2.1.trans (x.bel.mono HI7.out.2.1.size))
   have KD:Hid (∀ x:Ext V,Calls Tryz.prog 71 #[.agg ev.note.arr] x.w fun e w'=>e=.returned (.bool true)/\Below x.w.heap.size x.w w'):=fun x=>HD1.out x.w
   have KN:Hid (∀ x:Ext V,Calls Tryz.prog 73 #[.agg ev.note.arr] x.w fun e w'=>e=.returned (.agg #[.int .i64 ev.eh,.int .i64 ev.en])/\Below x.w.heap.size x.w w'):=fun x=>by
    have:=Dx ev.note x.w
    rwa [hnn.1,hnn.2] at this
   have lk:=fun x:Ext V=>look165 (HI7.out.2.2.2.2.1.below x.bel) ev.eh ev.en HNEW.out
   refine Bg (by kernel_rfl) (by kernel_rfl) ?_
   repeat (go_big_quiet_step (first | (go_at_call 71;exact Cj (KD.out _)) | (go_at_call 72;exact Cj (KF.out _)) | (go_at_call 73;exact Cj (KN.out _))))
   refine wpQuiet_nil ?_;rintro _ ⟨y,rfl⟩;clear le n0 n1 z0 z1 z2 KF KD KN lk;have hb8:=y.bel;generalize y.w=V8 at hb8 ⊢;have HI8:=Hd (show Bk V8 q7 70 ev.cells.toArray/\Below w.heap.size w V8/\Bk V8 w.heap.size 112 #[.int .i64 f.rings,.int .i64 f.sec,.int .i64 f.wide]/\Bk V8 (w.heap.size+1) 49 #[.slice A1 H.length c1,.slice A2 E.length c2,.slice A3 n3 c3]/\Bv V8 gm (seenF (M.take k))/\Ad V8 A5 (Ak M) from
    ⟨HI7.out.1.keep hb8,HI7.out.2.1.trans (hb8.mono HI7.out.2.1.size),HI7.out.2.2.1.keep hb8,HI7.out.2.2.2.1.keep hb8,HI7.out.2.2.2.2.1.below hb8,HI7.out.2.2.2.2.2.below hb8⟩)
   have m0:=(Kr HI8.out.1).1;have m1:=(Kr HI8.out.1).2;obtain ⟨w9,hup,M9,far9,sz9,os9,tp9,ou9⟩:=upd165 HI8.out.2.2.2.2.1 ev.eh ev.en (.bool true);rw [HSTP.out] at M9;have HI9:=Hd (show Below w.heap.size w w9/\Bk w9 w.heap.size 112 #[.int .i64 f.rings,.int .i64 f.sec,.int .i64 f.wide]/\Bk w9 (w.heap.size+1) 49 #[.slice A1 H.length c1,.slice A2 E.length c2,.slice A3 n3 c3]/\Bv w9 gm (seenF (M.take (k+1)))/\Ad w9 A5 (Ak M) from
    ⟨⟨os9.trans HI8.out.2.1.os,tp9.trans HI8.out.2.1.tape,ou9.trans HI8.out.2.1.output,by rw [sz9];exact HI8.out.2.1.size,fun i hi=>(far9 i (by omega)).trans (HI8.out.2.1.block i hi)⟩,(far9 _ (by omega)).trans HI8.out.2.2.1,(far9 _ (by omega)).trans HI8.out.2.2.2.1,M9,HI8.out.2.2.2.2.2.of_heap (fun a ha=>far9 _ (by have:=HA5.out a ha;omega)) (by omega)⟩)
   clear hb8 M9 far9 sz9 os9 tp9 ou9;go_wp2_with fail;go_roundw
   case rel=>exact ⟨k+1,by omega,by go_num,by rw [<- HA5q.out];exact HI9⟩
   case measure=>simp [intOf];omega
  ·obtain rfl:k=N:=by omega
   have hb9:Below wr.heap.size wr (wr.alloc (.cells #[.func (.func 74) #[] #[]] 169)):=Ba;have hbw9:=HI.out.1.trans (hb9.mono HI.out.1.size);have HJ:=Hd (show Below w.heap.size w (wr.alloc (.cells #[.func (.func 74) #[] #[]] 169))/\Bk (wr.alloc (.cells #[.func (.func 74) #[] #[]] 169)) (w.heap.size+1) 49 #[.slice A1 H.length c1,.slice A2 E.length c2,.slice A3 n3 c3]/\Bk (wr.alloc (.cells #[.func (.func 74) #[] #[]] 169)) wr.heap.size 169 #[.func (.func 74) #[] #[]] from ⟨hbw9,HI.out.2.2.1.keep hb9,Aa rfl⟩)
   clear hb9 hbw9;go_upto_region 12 with fail
   generalize wr.alloc _=V1 at *;generalize wr.heap.size=q8 at *;have y0:=HJ.out.2.1.cell 0;simp at y0;go_wp2_with fail;clear y0;go_loopw [65] (fun i ws=>∃ j:Nat,j<=H.length/\i=.int .i64 j/\Hid (Below w.heap.size w ws/\Bk ws (w.heap.size+1) 49 #[.slice A1 H.length c1,.slice A2 E.length c2,.slice A3 n3 c3]/\Bk ws q8 169 #[.func (.func 74) #[] #[]])) (fun i _=>H.length - (intOf i).toNat)
   case atStart=>exact ⟨0,Nat.zero_le _,rfl,HJ⟩
   case round =>
    clear HJ;obtain ⟨j,hj,rfl,HJ⟩:=hrel
    by_cases hltj:j<H.length
    ·have hjI:(j:Int)<H.length:=by omega
     obtain ⟨b5,o5,hA5,hb5,hc5⟩:=ev_loads (HX.out.2.2.2.2.1.below HJ.out.1) (by omega)
     have l0:=hc5 j hltj;have hkd:=HHK.out (H.getD j ev0) (Cg ev0 hltj);have HA5q:=Hd hA5;rw [hA5];clear hA5 hc5;generalize H.getD j ev0=ev at *;obtain ⟨q7,hq7⟩:∃ q,wr.heap.size=q:=⟨_,rfl⟩;have s1:=Be (ty:=70) (cs:=ev.cells.toArray) (Aa (w:=wr) (t:=70) (cs:=z70) hq7) (by kernel_rfl) rfl (by rw [<- Array.all_toList,List.all_eq_true];exact fun v hv=>Jr _ v (by simpa using hv))
     have Y7:Bk ((wr.alloc (.cells z70 70)).setRow q7 ev.cells.toArray) q7 70 ev.cells.toArray:=Bj (Aa hq7) _;have hB7:Below wr.heap.size wr ((wr.alloc (.cells z70 70)).setRow q7 ev.cells.toArray):=Aq Ba (by omega) _
     have HI7:=Hd (show Bk ((wr.alloc (.cells z70 70)).setRow q7 ev.cells.toArray) q7 70 ev.cells.toArray/\Below w.heap.size w ((wr.alloc (.cells z70 70)).setRow q7 ev.cells.toArray)/\Bk ((wr.alloc (.cells z70 70)).setRow q7 ev.cells.toArray) (w.heap.size+1) 49 #[.slice A1 H.length c1,.slice A2 E.length c2,.slice A3 n3 c3]/\Bk ((wr.alloc (.cells z70 70)).setRow q7 ev.cells.toArray) q8 169 #[.func (.func 74) #[] #[]] from
      ⟨Y7,HJ.out.1.trans (hB7.mono HJ.out.1.size),HJ.out.2.1.keep hB7,HJ.out.2.2.keep hB7⟩)
     clear Y7 hB7 HJ;go_upto_region 15 with fail
     clear s1 l0 hq7;generalize (wr.alloc _).setRow _ _=V at *;have t0:=HI7.out.2.2.2.cell 0;simp at t0;have l7:=Fg ev HI7.out.1;have HIH:=Hd (isHeap_any ev V);have k1:(ev.note.kind == 1)=true:=by simpa using hkd
     rw [k1] at HIH;clear hkd;go_wp2_with (go_at_call 74;refine HIH.out.mono ?_;rintro e w3 ⟨rfl,hb3⟩;have HJ3:=Hd (show Below w.heap.size w w3/\Bk w3 (w.heap.size+1) 49 #[.slice A1 H.length c1,.slice A2 E.length c2,.slice A3 n3 c3]/\Bk w3 q8 169 #[.func (.func 74) #[] #[]] from ⟨HI7.out.2.1.trans (hb3.mono HI7.out.2.1.size),HI7.out.2.2.1.keep hb3,HI7.out.2.2.2.keep hb3⟩);clear hb3)
     go_roundw
     case rel=>exact ⟨j+1,by omega,by go_num,by rw [<- HA5q.out];exact HJ3⟩
     case measure=>simp [intOf];omega
    ·obtain rfl:j=H.length:=by omega
     have y1:=HJ.out.2.1.cell 1;simp at y1;have HCF:=Hd (rightEv_has (w.heap.size+1) q8 A2 c2 E (fun _=>false) wr (HX.out.2.2.2.2.2.below HJ.out.1) (by omega) (fun X hX j hj=>right2_any (E.getD j ev0) H A1 A2 A3 c1 E.length c2 n3 c3 (w.heap.size+1) q8 X (HJ.out.2.1.keep hX) (HJ.out.2.2.keep hX) ((HX.out.2.2.2.2.1.below HJ.out.1).below hX) (by omega) (HEK.out _ (Cg ev0 hj)).1 (HEK.out _ (Cg ev0 hj)).2))
     rw [show Fd (fun _=>false) E.length=false from Fu.2 (fun _ _=>rfl)] at HCF
     go_wp2_with (go_at_call 75;refine HCF.out.mono ?_;rintro e w3 ⟨rfl,hb3⟩);go_ret;exact ⟨rfl,HJ.out.1.trans (hb3.mono HJ.out.1.size)⟩
end Go.Proofs.YteihcodicfoiaaaGreat
