/-
  What is proved: the contracts of the effects of events on a register.
-/
import Derived.Test.YteihcodicfoiaaaGreat32Mf
namespace Go.Proofs.YteihcodicfoiaaaGreat
set_option maxRecDepth 100000
set_option maxHeartbeats 4000000
open Go Go.RowKit
theorem info70e:(Tryz.prog.info? 70).map (fun i=>(i.zero,i.size,i.bytes))=some (some (.agg z70),21,184):=by kernel_rfl
theorem ev_block {w:World} {q:Nat} {e:EvD} (h:Bk w q 70 e.cells.toArray):∀ (j:Nat) (u:Value),e.cells[j]?=some u->w.cell? ((⟨q,0,none⟩:Addr).add j)=some u:=fun j u hu=>by
 rw [De,Nat.zero_add,h.cell j]
 simpa using hu
theorem Dz {W W':World} (h:Below W.heap.size W W'):KeepsOthers W W':=⟨h.size,fun k o hk _=>(h.block k (Array.getElem?_eq_some_iff.1 hk).1).trans hk⟩
theorem at_add (e:EvD) {w W:World} (he:e.note.At w/\e.note.StrT w) (hb:Below w.heap.size w W):e.note.At W/\e.note.StrT W:=⟨he.1.below hb,StrT.below he.2 hb⟩
attribute [local go_sem ↓] Cd Kg Dm Bu build_at46 build_run
theorem add_any (e:EvD) (B p:Nat) (H E:List EvD) (C:List (Int×Int)) (z:RegL) (w:World) (h0:Ez B p H E C z w) (he:e.note.At w/\e.note.StrT w) (hlen:E.length<=399) :
  Calls Tryz.prog 130 #[.pointer (some ⟨p,0,none⟩),.agg e.cells.toArray] w (EffP B p H (E ++ [e]) C true w):=by
 obtain ⟨W,hW⟩:∃ W,w.alloc (.cells e.cells.toArray 70)=W:=⟨_,rfl⟩;have hbW:Below w.heap.size w W:=by rw [<- hW];exact Ba
 have X:Bk W w.heap.size 70 e.cells.toArray:=by rw [<- hW];exact Aa rfl
 have HX:=Hd (show Bk W w.heap.size 70 e.cells.toArray/\Ez B p H E C z W from ⟨X,h0.below hbW⟩)
 have HW:=Hd hW;have hBx:Below w.heap.size w (W.drew.alloc (.cells e.cells.toArray 70)):=hbW.drew.alloc hbW.size _;have HEA:Hid (True/\∀ n,n<=(W.drew.alloc (.cells e.cells.toArray 70)).heap.size->e.note.At (W.drew.alloc (.cells e.cells.toArray 70))/\e.note.StrT (W.drew.alloc (.cells e.cells.toArray 70))):=Hd ⟨trivial,fun _ _=>at_add e he hBx⟩
 have HNE:Hid (∀ k,(Value.slice z.A2 E.length z.c2).ownBlock=some k->k<w.heap.size):=Hd fun k hk=>(h0.es.lt k hk).2
 have HKW:Hid (Cm B p w (W.drew.alloc (.cells e.cells.toArray 70))/\KeepsOthers w (W.drew.alloc (.cells e.cells.toArray 70))):=Hd ⟨Cm.of_below (hBx.mono h0.lt.2),Dz hBx⟩;clear hW X hbW he hBx;go_enter Tryz.func130,Tryz.ntmps130;go_upto_region 1 with fail
 rw [HW.out];clear HW;have HU:=Hd (show Bk W.drew w.heap.size 70 e.cells.toArray/\Ez B p H E C z W.drew from ⟨HX.out.1,HX.out.2.below (Below.refl _ W).drew⟩)
 have hBx:Below W.drew.heap.size W.drew (W.drew.alloc (.cells e.cells.toArray 70)):=Ba;have HU2:=Hd (show Bk (W.drew.alloc (.cells e.cells.toArray 70)) w.heap.size 70 e.cells.toArray/\Ez B p H E C z (W.drew.alloc (.cells e.cells.toArray 70)) from ⟨HU.out.1.keep hBx,HU.out.2.below hBx⟩)
 have ln1:=Fg e HU.out.1;have ln2:=Fg e HU2.out.1;have bs:=build46 e W.drew;have c1:=HU.out.2.rg.cell 1;have c2:=HU2.out.2.rg.cell 1;simp [Ep] at c1 c2;have hpq:p<w.heap.size:=by have:=h0.lt;omega
 have hpW:p<W.heap.size:=HX.out.2.rg.lt;have hqW:w.heap.size<W.heap.size:=HX.out.1.lt;obtain ⟨i0,hi0,hz0,hz1,hz2⟩:=info_parts info70e;clear hBx HX h0;go_region_law (first
  | (refine step_append_lies _ rfl _ _ 46 rfl B 70 i0 _ 21 184 Tryz.underlying46 hi0 hz0 hz1 hz2 rfl (by decide) (.slice z.A2 E.length z.c2) E.length (Ak E) rfl HU2.out.2.es ⟨W.drew.heap.size,0,none⟩ 1 1 e.cells rfl rfl (ev_block (Aa rfl)) (Jr e) (by decide) (by unfold maxLen;omega) (by omega) HU2.out.2.lt.2 _ rfl ?_;intro g6 c6 w6 hown6 hg6 hf6 hlt6;have N7:=HU2.out.1.grown hg6 (fun e1=>by have:=HNE.out _ e1.symm;omega);have B7:=rg_push HU2.out.2 HU2.out.2.es Le hg6;have c4:=B7.cell 1;have f4:=B7.fz 1;have l4:=B7.lt;have ln4:=Fg e N7;have ln5:=Fg e (N7.far (p:=⟨p,1,none⟩) (by simp;omega) (.slice (some ⟨g6,0,none⟩) (E.length+1) c6));simp [Ep] at c4;have HEND:=Hd (Ai hown6 (Ai hg6 hf6));clear N7 B7 hown6 hg6 hf6))
 all_goals
  obtain ⟨hown6,hg6,hf6⟩:=HEND.out;have R7:=Hd (HU2.out.2.pushE (HEA.out.2 _ HU2.out.2.lt.2) hown6 hg6 hf6);have K7:=Hd (keep_push HU2.out.2 HU2.out.2.es Le hg6 1 (.slice (some ⟨g6,0,none⟩) (E.length+1) c6));clear hown6 hg6 hf6 HEND c4 f4 l4 ln1 ln2 ln4 ln5 c1 c2 hi0 hz0 hz1 hz2 bs HU;generalize w6.setCell _ _=U7 at *;go_wp2_with fail;go_ret;have k1:=HKW.out.1.trans K7.out.1;exact ⟨rfl,k1,HKW.out.2.trans K7.out.2,⟨_,R7.out⟩,fun h=>by cases h⟩
theorem heap_push (e:EvD) (B p:Nat) (H E:List EvD) (C:List (Int×Int)) (z:RegL) (w:World) (h0:Ez B p H E C z w) (he:e.note.At w/\e.note.StrT w) (hlen:H.length<8) :
  Calls Tryz.prog 131 #[.pointer (some ⟨p,0,none⟩),.agg e.cells.toArray] w (EffP B p (H ++ [e]) E C true w):=by
 obtain ⟨W,hW⟩:∃ W,w.alloc (.cells e.cells.toArray 70)=W:=⟨_,rfl⟩;have hbW:Below w.heap.size w W:=by rw [<- hW];exact Ba
 have X:Bk W w.heap.size 70 e.cells.toArray:=by rw [<- hW];exact Aa rfl
 have HX:=Hd (show Bk W w.heap.size 70 e.cells.toArray/\Ez B p H E C z W from ⟨X,h0.below hbW⟩)
 have HW:=Hd hW;have hBx:Below w.heap.size w (W.drew.alloc (.cells e.cells.toArray 70)):=hbW.drew.alloc hbW.size _;have HEA:Hid (True/\∀ n,n<=(W.drew.alloc (.cells e.cells.toArray 70)).heap.size->e.note.At (W.drew.alloc (.cells e.cells.toArray 70))/\e.note.StrT (W.drew.alloc (.cells e.cells.toArray 70))):=Hd ⟨trivial,fun _ _=>at_add e he hBx⟩
 have HNE:Hid (∀ k,(Value.slice z.A1 H.length z.c1).ownBlock=some k->k<w.heap.size):=Hd fun k hk=>(h0.hs.lt k hk).2
 have HKW:Hid (Cm B p w (W.drew.alloc (.cells e.cells.toArray 70))/\KeepsOthers w (W.drew.alloc (.cells e.cells.toArray 70))):=Hd ⟨Cm.of_below (hBx.mono h0.lt.2),Dz hBx⟩;have b8:((H.length:Int) == 8)=false:=by simp;omega
 have c0:=HX.out.2.rg.cell 0;simp [Ep] at c0;clear hW X hbW he hBx;go_enter Tryz.func131,Tryz.ntmps131;go_upto_region 1 with fail
 rw [HW.out];clear HW;go_upto_region 3 with fail
 clear c0 b8;have HU:=Hd (show Bk W.drew w.heap.size 70 e.cells.toArray/\Ez B p H E C z W.drew from ⟨HX.out.1,HX.out.2.below (Below.refl _ W).drew⟩)
 have hBx:Below W.drew.heap.size W.drew (W.drew.alloc (.cells e.cells.toArray 70)):=Ba;have HU2:=Hd (show Bk (W.drew.alloc (.cells e.cells.toArray 70)) w.heap.size 70 e.cells.toArray/\Ez B p H E C z (W.drew.alloc (.cells e.cells.toArray 70)) from ⟨HU.out.1.keep hBx,HU.out.2.below hBx⟩)
 have ln1:=Fg e HU.out.1;have ln2:=Fg e HU2.out.1;have bs:=build46 e W.drew;have c1:=HU.out.2.rg.cell 0;have c2:=HU2.out.2.rg.cell 0;simp [Ep] at c1 c2;have hpq:p<w.heap.size:=by have:=h0.lt;omega
 have hpW:p<W.heap.size:=HX.out.2.rg.lt;have hqW:w.heap.size<W.heap.size:=HX.out.1.lt;obtain ⟨i0,hi0,hz0,hz1,hz2⟩:=info_parts info70e;clear hBx HX h0;go_region_law (first
  | (refine step_append_lies _ rfl _ _ 46 rfl B 70 i0 _ 21 184 Tryz.underlying46 hi0 hz0 hz1 hz2 rfl (by decide) (.slice z.A1 H.length z.c1) H.length (Ak H) rfl HU2.out.2.hs ⟨W.drew.heap.size,0,none⟩ 1 1 e.cells rfl rfl (ev_block (Aa rfl)) (Jr e) (by decide) (by unfold maxLen;omega) (by omega) HU2.out.2.lt.2 _ rfl ?_;intro g6 c6 w6 hown6 hg6 hf6 hlt6;have N7:=HU2.out.1.grown hg6 (fun e1=>by have:=HNE.out _ e1.symm;omega);have B7:=rg_push HU2.out.2 HU2.out.2.hs Le hg6;have c4:=B7.cell 0;have f4:=B7.fz 0;have l4:=B7.lt;have ln4:=Fg e N7;have ln5:=Fg e (N7.far (p:=⟨p,0,none⟩) (by simp;omega) (.slice (some ⟨g6,0,none⟩) (H.length+1) c6));simp [Ep] at c4;have HEND:=Hd (Ai hown6 (Ai hg6 hf6));clear N7 B7 hown6 hg6 hf6))
 all_goals
  obtain ⟨hown6,hg6,hf6⟩:=HEND.out;have R7:=Hd (HU2.out.2.pushH (HEA.out.2 _ HU2.out.2.lt.2) hown6 hg6 hf6);have K7:=Hd (keep_push HU2.out.2 HU2.out.2.hs Le hg6 0 (.slice (some ⟨g6,0,none⟩) (H.length+1) c6));clear hown6 hg6 hf6 HEND c4 f4 l4 ln1 ln2 ln4 ln5 c1 c2 hi0 hz0 hz1 hz2 bs HU;generalize w6.setCell _ _=U7 at *;go_wp2_with fail;go_ret;have k1:=HKW.out.1.trans K7.out.1;exact ⟨rfl,k1,HKW.out.2.trans K7.out.2,⟨_,R7.out⟩,fun h=>by cases h⟩
theorem heap_full (e:EvD) (B p:Nat) (H E:List EvD) (C:List (Int×Int)) (z:RegL) (w:World) (h0:Ez B p H E C z w) (hlen:H.length=8) :
  Calls Tryz.prog 131 #[.pointer (some ⟨p,0,none⟩),.agg e.cells.toArray] w (EffP B p H E C false w):=by
 obtain ⟨W,hW⟩:∃ W,w.alloc (.cells e.cells.toArray 70)=W:=⟨_,rfl⟩;have hbW:Below w.heap.size w W:=by rw [<- hW];exact Ba
 have X:Bk W w.heap.size 70 e.cells.toArray:=by rw [<- hW];exact Aa rfl
 have HX:=Hd (show Bk W w.heap.size 70 e.cells.toArray/\Ez B p H E C z W from ⟨X,h0.below hbW⟩)
 have HW:=Hd hW;have HKW:Hid (Cm B p w W/\KeepsOthers w W):=Hd ⟨Cm.of_below (hbW.mono h0.lt.2),Dz hbW⟩;have HBW:=Hd hbW;have b8:((H.length:Int) == 8)=true:=by simp;omega
 have c0:=HX.out.2.rg.cell 0;simp [Ep] at c0;clear hW X hbW h0 hlen;go_enter Tryz.func131,Tryz.ntmps131;go_upto_region 1 with fail
 rw [HW.out];clear HW;go_wp2_with fail;go_ret;exact ⟨rfl,HKW.out.1,HKW.out.2,⟨_,HX.out.2⟩,fun _=>HBW.out⟩
theorem Ct {w:World} {g:Nat} {cs:Array Value} (h:Bk w g 49 cs) (hi:cs.size=3):Hb 49 (.pointer (some ⟨g,0,none⟩)) w=.ok (.agg cs) w:=loadN_eq h rfl Tryz.underlying49 (by rw [hi];kernel_rfl)
theorem pass_any (e:EvD) (B p pa:Nat) (H E:List EvD) (C:List (Int×Int)) (z:RegL) (w:World) (h0:Ez B p H E C z w) (he:e.note.At w/\e.note.StrT w) (hlen:E.length<=399) (hH:H.length<=400) (hpa:Bk w pa 199 #[.func (.func 130) #[] #[]]) :
  Calls Tryz.prog 132 #[.pointer (some ⟨p,0,none⟩),.agg e.cells.toArray,.pointer (some ⟨pa,0,none⟩)] w (EffP B p H (if Hg H e.note.rh e.note.rn=0 then E ++ [e] else E) C (Hg H e.note.rh e.note.rn == 0) w):=by
 obtain ⟨W,hW⟩:∃ W,w.alloc (.cells e.cells.toArray 70)=W:=⟨_,rfl⟩;have hbW:Below w.heap.size w W:=by rw [<- hW];exact Ba
 have X:Bk W w.heap.size 70 e.cells.toArray:=by rw [<- hW];exact Aa rfl
 have HX:=Hd (show Bk W w.heap.size 70 e.cells.toArray/\Ez B p H E C z W from ⟨X,h0.below hbW⟩)
 have HW:=Hd hW;have HP:=Hd (hpa.keep hbW);have HE:=Hd (at_add e he hbW);have HKW:Hid (Cm B p w W/\KeepsOthers w W):=Hd ⟨Cm.of_below (hbW.mono h0.lt.2),Dz hbW⟩;have HBW:=Hd hbW;have HBR:=Hd h0.lt;have hbs:=hbW.size;have x18:=X.cell 18;have x19:=X.cell 19;simp [EvD.cells,Ab.arr] at x18 x19;have HHO:Hid (∀ x:Ext W,Calls Tryz.prog 77 #[.agg (Ep H E C z),.agg #[.int .i64 e.note.rh,.int .i64 e.note.rn]] x.w fun r w'=>r=.returned (.tuple #[.int .i64 (Ki H e.note.rh e.note.rn),.int .i64 (Hg H e.note.rh e.note.rn)])/\Below x.w.heap.size x.w w') :=
  fun x=>HeapOf_any H z.A1 z.A2 z.A3 z.c1 E.length z.c2 C.length z.c3 _ _ x.w (Gu (HX.out.2.below x.bel).hs) (by omega)
 have l49:=fun x:Ext W=>Ct (HX.out.2.rg.keep x.bel) rfl
 replace x18:=fun x:Ext W=>Ag x.bel x18
 replace x19:=fun x:Ext W=>Ag x.bel x19
 clear hW X hbW h0 he hpa;generalize Ki H e.note.rh e.note.rn=vn at *;generalize Hg H e.note.rh e.note.rn=ve at *;go_enter Tryz.func132,Tryz.ntmps132;go_upto_region 1 with fail
 rw [HW.out];clear HW;refine By 7 (by kernel_rfl) (by kernel_rfl) (fun _ _ d _ _ h=>by cases d<;>exact h) ?_
 simp only [List.take_succ_cons,List.take_zero,List.drop_succ_cons,List.drop_zero];repeat (go_big_quiet_step ((go_at_call 77;exact Cj (HHO.out _))))
 refine wpQuiet_nil ?_;rintro _ ⟨y,rfl⟩;clear x18 x19 l49 HHO;have hb2:=y.bel;generalize y.w=w2 at hb2 ⊢;have HX2:=Hd (show Bk w2 w.heap.size 70 e.cells.toArray/\Ez B p H E C z w2 from ⟨HX.out.1.keep hb2,HX.out.2.below hb2⟩)
 have HK2:Hid (Cm B p w w2/\KeepsOthers w w2):=Hd ⟨HKW.out.1.trans (Cm.of_below (hb2.mono (by have:=HBR.out;omega))),HKW.out.2.trans (Dz hb2)⟩
 have pa0:=(HP.out.keep hb2).cell 0;simp at pa0;have le:=Fg e HX2.out.1;have HAD:=Hd (add_any e B p H E C z w2 HX2.out.2 (at_add e HE.out hb2) hlen);have HB2:=Hd (HBW.out.trans (hb2.mono HBW.out.size));clear hb2 HX HKW HP HE
 by_cases hv:ve=0
 ·have hv0:(ve == 0)=true:=by simpa using hv
  go_wp2_with (go_at_call 130;refine HAD.out.mono ?_;rintro r w3 ⟨rfl,k3,o3,⟨z3,R3⟩,_⟩;have H3:=Hd (Ai k3 (Ai o3 R3));clear k3 o3 R3);go_ret;exact ⟨rfl,HK2.out.1.trans H3.out.1,HK2.out.2.trans H3.out.2.1,⟨_,H3.out.2.2⟩,fun h=>by cases h⟩
 ·have hv0:(ve == 0)=false:=by simpa using hv
  go_wp2_with fail;go_ret;exact ⟨rfl,HK2.out.1,HK2.out.2,⟨_,HX2.out.2⟩,fun _=>HB2.out⟩
end Go.Proofs.YteihcodicfoiaaaGreat
