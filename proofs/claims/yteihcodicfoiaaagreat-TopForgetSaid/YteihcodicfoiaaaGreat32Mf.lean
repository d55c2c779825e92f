/-
  What is proved: contracts and plain facts that TopForget stands on (EvB, RegW).
-/
import Derived.Test.YteihcodicfoiaaaGreatEvItMf
import Derived.Test.YteihcodicfoiaaaGreatEachMf
import Derived.Deep.AppendLies
namespace Go.Proofs.YteihcodicfoiaaaGreat
set_option maxRecDepth 100000
set_option maxHeartbeats 2000000
open Go Go.RowKit
section
theorem Fg {w:World} {g:Nat} (e:EvD) (h:Bk w g 70 e.cells.toArray):Hb 70 (.pointer (some ⟨g,0,none⟩)) w=.ok (.agg e.cells.toArray) w:=loadN_eq h rfl Tryz.underlying70 (by kernel_rfl)
theorem evnote_eq {w:World} {g:Nat} (e:EvD) (h:Bk w g 70 e.cells.toArray):Hb 68 (.pointer (some ⟨g,2,none⟩)) w=.ok (.agg e.note.arr) w:=by
 have:=loadN_at (ty:=68) (w:=w) (b:=g) (off:=2) (cs:=e.note.arr.toList) (fun j u hu=>?_) rfl Tryz.underlying68 (by kernel_rfl)
 ·simpa using this
 ·rw [h.cell (2+j)];have e1:e.cells.toArray[2+j]?=e.note.arr.toList[j]?:=by
   rw [List.getElem?_toArray,Nat.add_comm];rfl
  rw [e1];exact hu
theorem ev_loads {w:World} {A:Option Addr} {l:List EvD} (h:Ad w A (Ak l)) (h0:0<l.length) :
  ∃ b off,A=some ⟨b,off,none⟩/\b<w.heap.size/\∀ k,k<l.length->Hb 70 (.pointer (some ⟨b,off+k*21,none⟩)) w=.ok (.agg (l.getD k ev0).cells.toArray) w:=by
 obtain ⟨b,off,h1,h2,h3⟩:=ev_row h h0;exact ⟨b,off,h1,h2,fun k hk=>loadN_at (cs:=(l.getD k ev0).cells) (h3 k hk) rfl Tryz.underlying70 (by kernel_rfl)⟩
theorem Kr {w:World} {g:Nat} {e:EvD} (h:Bk w g 70 e.cells.toArray):w.cell? ⟨g,0,none⟩=some (.int .i64 e.eh)/\w.cell? ⟨g,1,none⟩=some (.int .i64 e.en):=by
 refine ⟨?_,?_⟩
 ·rw [h.cell 0];rfl
 ·rw [h.cell 1];rfl
theorem Jr (e:EvD):∀ u∈e.cells,u.oneCell'=true:=fun u hu=>by
 simp only [EvD.cells,List.mem_cons] at hu;rcases hu with rfl | rfl | hu
 ·rfl
 ·rfl
 ·exact arr_ones e.note u hu
attribute [local go_sem ↓] Cd Kg Dm Bu
theorem heapOf1_any (e:EvD) (a b:Int) (q:Nat) (w:World) (hq:Bk w q 66 #[.int .i64 a,.int .i64 b]) :
  Calls Tryz.prog 119 #[.agg e.cells.toArray,.pointer (some ⟨q,0,none⟩)] w fun r w'=>r=.returned (.bool (e.eh == a && e.en == b))/\Below w.heap.size w w':=by
 obtain ⟨W,hW⟩:∃ W,w.alloc (.cells e.cells.toArray 70)=W:=⟨_,rfl⟩;have hbW:Below w.heap.size w W:=by rw [<- hW];exact Ba
 have X:Bk W w.heap.size 70 e.cells.toArray:=by rw [<- hW];exact Aa rfl
 have x0:=(Kr X).1;have x1:=(Kr X).2;have y0:=(hq.keep hbW).cell 0;have y1:=(hq.keep hbW).cell 1;simp at y0 y1;have HW:=Hd hW;clear hW X hq;go_enter Tryz.func119,Tryz.ntmps119;go_upto_region 1 with fail
 rw [HW.out];clear HW;go_wp2_with fail
 all_goals
  go_ret;exact ⟨Af (by simp [*]),hbW⟩
theorem heapEv_ix (q:Nat) (A:Option Addr) (c:Nat) (l:List EvD) (bad:Nat->Bool) (w:World) (hrow:Ad w A (Ak l)) (hn:l.length<=9223372036854775807)
  (hcall:∀ X,Below w.heap.size w X->∀ k,k<l.length->Calls Tryz.prog 119 (#[.agg (l.getD k ev0).cells.toArray,.pointer (some ⟨q,0,none⟩)]) X fun e w'=>e=.returned (.bool (bad k))/\Below X.heap.size X w') :
  Calls Tryz.prog 118 #[.slice A l.length c,.func (.func 119) #[] #[.pointer (some ⟨q,0,none⟩)]] w fun e w'=>e=.returned (.int .i64 (Cs bad l.length))/\Below w.heap.size w w':=by
 have HR:=Hd hrow;have HC:=Hd hcall;clear hrow hcall;have hB0:=Below.refl w.heap.size w;go_enter Tryz.func118,Tryz.ntmps118;go_wp2_with fail;go_loopw [8] (fun i wr=>∃ k:Nat,k<=l.length/\i=.int .i64 k/\Below w.heap.size w wr/\Hid (∀ j,j<k->bad j=false)) (fun i _=>l.length - (intOf i).toNat)
 case atStart=>exact ⟨0,Nat.zero_le _,rfl,hB0,fun j h=>absurd h (by omega)⟩
 case round =>
  obtain ⟨k,hk,rfl,hBr,hall⟩:=hrel;clear hB0
  by_cases hlt:k<l.length
  ·have hkI:(k:Int)<l.length:=by omega
   obtain ⟨b5,o5,hA,hb5,hc5⟩:=ev_loads (HR.out.below hBr) (by omega)
   have l5:=hc5 k hlt;have HE:=Hd (HC.out wr hBr k hlt);have HF:Hid (bad k=true->Cs bad l.length=k):=fun h=>Es hlt hall.out h
   have HN:Hid (bad k=false->∀ j,j<k+1->bad j=false):=fun h=>Fq hall.out h
   rw [hA];clear hA hc5 hall;generalize l.getD k ev0=ev at *;cases hs:bad k
   ·rw [hs] at HE;have HN2:=Hd (HN.out hs);clear HN HF hs;go_wp2_with (go_at_call 119;refine HE.out.mono ?_;rintro e w1 ⟨rfl,hb1⟩);have hB1:=hBr.trans (hb1.mono hBr.size);go_roundw
    case rel=>exact ⟨k+1,by omega,by go_num,hB1,HN2⟩
    case measure=>simp [intOf];omega
   ·rw [hs] at HE;have HF2:=Hd (HF.out hs);clear HN HF hs;go_wp2_with (go_at_call 119;refine HE.out.mono ?_;rintro e w1 ⟨rfl,hb1⟩);go_ret;exact ⟨Cb HF2.out.symm,hBr.trans (hb1.mono hBr.size)⟩
  ·obtain rfl:k=l.length:=by omega
   have HF:=Hd (Ea hall.out);clear hall;go_wp2;go_ret;exact ⟨Cb HF.out.symm,hBr⟩
def heapF (H:List EvD) (a b:Int):Int:=Cs (fun k=>(H.getD k ev0).eh == a && (H.getD k ev0).en == b) H.length
def Ki (H:List EvD) (a b:Int):Int:=if heapF H a b<0 then 0 else heapF H a b
def Hg (H:List EvD) (a b:Int):Int:=if heapF H a b<0 then 3 else 0
theorem HeapOf_any (H:List EvD) (A1 A2 A3:Option Addr) (c1 n2 c2 n3 c3:Nat) (a b:Int) (w:World) (hrow:Ad w A1 (Ak H)) (hn:H.length<=9223372036854775807) :
  Calls Tryz.prog 77 #[Dv A1 H.length c1 A2 n2 c2 A3 n3 c3,.agg #[.int .i64 a,.int .i64 b]] w fun e w'=>e=.returned (.tuple #[.int .i64 (Ki H a b),.int .i64 (Hg H a b)])/\Below w.heap.size w w':=by
 unfold Dv;obtain ⟨W,hW⟩:∃ W,(w.alloc (.cells #[.slice A1 H.length c1,.slice A2 n2 c2,.slice A3 n3 c3] 49)).alloc (.cells #[.int .i64 a,.int .i64 b] 66)=W:=⟨_,rfl⟩;have hbW:Below w.heap.size w W:=by rw [<- hW];exact Ba.alloc (by simp) _
 have X:Bk W w.heap.size 49 #[.slice A1 H.length c1,.slice A2 n2 c2,.slice A3 n3 c3]:=by rw [<- hW];exact (Aa rfl).alloc _
 have Y:Bk W (w.heap.size+1) 66 #[.int .i64 a,.int .i64 b]:=by rw [<- hW];exact Aa (by simp)
 have x0:=X.cell 0;simp at x0;have HI:=Hd (heapEv_ix (w.heap.size+1) A1 c1 H (fun k=>(H.getD k ev0).eh == a && (H.getD k ev0).en == b) W (hrow.below hbW) hn (fun V hV k _=>heapOf1_any _ a b _ V (Y.keep hV)))
 have HW:=Hd hW;have HN:Hid (Ki H a b=if heapF H a b<0 then 0 else heapF H a b):=Hd rfl
 have HE:Hid (Hg H a b=if heapF H a b<0 then 3 else 0):=Hd rfl
 rw [show Cs (fun k=>(H.getD k ev0).eh == a && (H.getD k ev0).en == b) H.length=heapF H a b from rfl] at HI
 generalize heapF H a b=i at *;generalize Ki H a b=vn at *;generalize Hg H a b=ve at *;clear hW X Y hrow
 by_cases hi:i<0
 ·have HV:Hid (vn=0/\ve=3):=Hd ⟨by rw [HN.out,if_pos hi],by rw [HE.out,if_pos hi]⟩
  clear HN HE;go_enter Tryz.func77,Tryz.ntmps77;go_upto_region 1 with fail
  rw [HW.out];clear HW;go_wp2_with (go_at_call 118;refine HI.out.mono ?_;rintro e w1 ⟨rfl,hb1⟩);go_ret2;exact ⟨by rw [HV.out.1,HV.out.2];rfl,hbW.trans (hb1.mono hbW.size)⟩
 ·have HV:Hid (vn=i/\ve=0):=Hd ⟨by rw [HN.out,if_neg hi],by rw [HE.out,if_neg hi]⟩
  clear HN HE;go_enter Tryz.func77,Tryz.ntmps77;go_upto_region 1 with fail
  rw [HW.out];clear HW;go_wp2_with (go_at_call 118;refine HI.out.mono ?_;rintro e w1 ⟨rfl,hb1⟩);go_ret2;exact ⟨by rw [HV.out.1,HV.out.2];rfl,hbW.trans (hb1.mono hbW.size)⟩
theorem rightEv_ix (q q':Nat) (A:Option Addr) (c:Nat) (l:List EvD) (bad:Nat->Bool) (w:World) (hrow:Ad w A (Ak l)) (hn:l.length<=9223372036854775807)
  (hcall:∀ X,Below w.heap.size w X->∀ k,k<l.length->Calls Tryz.prog 76 (#[.agg (l.getD k ev0).cells.toArray,.pointer (some ⟨q,0,none⟩),.pointer (some ⟨q',0,none⟩)]) X fun e w'=>e=.returned (.bool (bad k))/\Below X.heap.size X w') :
  Calls Tryz.prog 118 #[.slice A l.length c,.func (.func 76) #[] #[.pointer (some ⟨q,0,none⟩),.pointer (some ⟨q',0,none⟩)]] w fun e w'=>e=.returned (.int .i64 (Cs bad l.length))/\Below w.heap.size w w':=by
 have HR:=Hd hrow;have HC:=Hd hcall;clear hrow hcall;have hB0:=Below.refl w.heap.size w;go_enter Tryz.func118,Tryz.ntmps118;go_wp2_with fail;go_loopw [8] (fun i wr=>∃ k:Nat,k<=l.length/\i=.int .i64 k/\Below w.heap.size w wr/\Hid (∀ j,j<k->bad j=false)) (fun i _=>l.length - (intOf i).toNat)
 case atStart=>exact ⟨0,Nat.zero_le _,rfl,hB0,fun j h=>absurd h (by omega)⟩
 case round =>
  obtain ⟨k,hk,rfl,hBr,hall⟩:=hrel;clear hB0
  by_cases hlt:k<l.length
  ·have hkI:(k:Int)<l.length:=by omega
   obtain ⟨b5,o5,hA,hb5,hc5⟩:=ev_loads (HR.out.below hBr) (by omega)
   have l5:=hc5 k hlt;have HE:=Hd (HC.out wr hBr k hlt);have HF:Hid (bad k=true->Cs bad l.length=k):=fun h=>Es hlt hall.out h
   have HN:Hid (bad k=false->∀ j,j<k+1->bad j=false):=fun h=>Fq hall.out h
   rw [hA];clear hA hc5 hall;generalize l.getD k ev0=ev at *;cases hs:bad k
   ·rw [hs] at HE;have HN2:=Hd (HN.out hs);clear HN HF hs;go_wp2_with (go_at_call 76;refine HE.out.mono ?_;rintro e w1 ⟨rfl,hb1⟩);have hB1:=hBr.trans (hb1.mono hBr.size);go_roundw
    case rel=>exact ⟨k+1,by omega,by go_num,hB1,HN2⟩
    case measure=>simp [intOf];omega
   ·rw [hs] at HE;have HF2:=Hd (HF.out hs);clear HN HF hs;go_wp2_with (go_at_call 76;refine HE.out.mono ?_;rintro e w1 ⟨rfl,hb1⟩);go_ret;exact ⟨Cb HF2.out.symm,hBr.trans (hb1.mono hBr.size)⟩
  ·obtain rfl:k=l.length:=by omega
   have HF:=Hd (Ea hall.out);clear hall;go_wp2;go_ret;exact ⟨Cb HF.out.symm,hBr⟩
theorem rightEv_has (q q':Nat) (A:Option Addr) (c:Nat) (l:List EvD) (bad:Nat->Bool) (w:World) (hrow:Ad w A (Ak l)) (hn:l.length<=9223372036854775807)
  (hcall:∀ X,Below w.heap.size w X->∀ k,k<l.length->Calls Tryz.prog 76 (#[.agg (l.getD k ev0).cells.toArray,.pointer (some ⟨q,0,none⟩),.pointer (some ⟨q',0,none⟩)]) X fun e w'=>e=.returned (.bool (bad k))/\Below X.heap.size X w') :
  Calls Tryz.prog 75 #[.slice A l.length c,.func (.func 76) #[] #[.pointer (some ⟨q,0,none⟩),.pointer (some ⟨q',0,none⟩)]] w fun e w'=>e=.returned (.bool (Fd bad l.length))/\Below w.heap.size w w':=by
 have HI:=Hd (rightEv_ix q q' A c l bad w hrow hn hcall);have HG:=Hd (Et bad l.length);clear hrow hcall;go_enter Tryz.func75,Tryz.ntmps75;go_wp2_with (go_at_call 118;refine HI.out.mono ?_;rintro e w1 ⟨rfl,hb1⟩);go_ret;exact ⟨Af HG.out,hb1⟩
end
section
structure RegL where
 A1:Option Addr
 c1:Nat
 A2:Option Addr
 c2:Nat
 A3:Option Addr
 c3:Nat
def Ep (H E:List EvD) (C:List (Int×Int)) (z:RegL):Array Value:=#[.slice z.A1 H.length z.c1,.slice z.A2 E.length z.c2,.slice z.A3 C.length z.c3]
structure Ez (B p:Nat) (H E:List EvD) (C:List (Int×Int)) (z:RegL) (V:World):Prop where
 lt:p<B/\B<=V.heap.size
 rg:Bk V p 49 (Ep H E C z)
 hs:V.ownsRow B 70 21 (.slice z.A1 H.length z.c1) H.length (Ak H)
 es:V.ownsRow B 70 21 (.slice z.A2 E.length z.c2) E.length (Ak E)
 cs:V.ownsRow B 66 2 (.slice z.A3 C.length z.c3) C.length (C.flatMap Dl)
 ne:∀ k,(Value.slice z.A1 H.length z.c1).ownBlock=some k->(Value.slice z.A2 E.length z.c2).ownBlock≠some k
 st:∀ e,e∈H\/e∈E->e.note.At V/\e.note.StrT V
section
variable {B p:Nat} {H E:List EvD} {C:List (Int×Int)} {z:RegL} {V V':World}
theorem Ez.below (h:Ez B p H E C z V) (hb:Below V.heap.size V V'):Ez B p H E C z V' :=
 ⟨⟨h.lt.1,Nat.le_trans h.lt.2 hb.size⟩,h.rg.keep hb,Ca h.hs hb,Ca h.es hb,Ca h.cs hb,h.ne,fun e he=>⟨(h.st e he).1.below hb,StrT.below (h.st e he).2 hb⟩⟩
theorem ownBlock_slice {g n c m:Nat}:(Value.slice (some ⟨g,0,none⟩) n c).ownBlock=some m↔g=m:=by simp [Value.ownBlock]
theorem Bt {base:Nat} {e:TypeId} {size n:Nat} {v:Value} {xs:List Value} (h:V.ownsRow base e size v n xs) {row:Option Nat} (hg:V.grownBy V' row) (hne:∀ k,v.ownBlock=some k->row≠some k):V'.ownsRow base e size v n xs :=
 h.kept hg (by
  cases hv:v.ownBlock with
  | none=>exact .inl rfl
  | some b =>
   refine .inr fun e1=>hne b hv ?_
   exact e1.symm)
theorem Ja {base:Nat} {e:TypeId} {size n:Nat} {v:Value} {xs:List Value} (h:V.ownsRow base e size v n xs) (hg:V.grownBy V' v.ownBlock):KeepsOthers V V' :=
 ⟨hg.size,fun k o hk ho=>by
  refine (hg.block k (Array.getElem?_eq_some_iff.1 hk).1 fun e1=>?_).trans hk
  obtain ⟨cs,hcs⟩:=Ck h e1.symm;have:=hcs.symm.trans hk;simp at this;rw [<- this] at ho;simp [Obj.isCells] at ho⟩
theorem evCells_snoc (l:List EvD) (e:EvD):Ak (l ++ [e])=Ak l ++ e.cells:=by simp [Ak]
theorem str_far (h:Ez B p H E C z V) {e:EvD} (he:e.note.At V/\e.note.StrT V) {base:Nat} {t:TypeId} {size n:Nat} {v:Value} {xs:List Value} (hv:V.ownsRow base t size v n xs) (ht:t≠3) (hg:V.grownBy V' v.ownBlock) (c:Nat) (u:Value) :
  e.note.At (V'.setCell ⟨p,c,none⟩ u)/\e.note.StrT (V'.setCell ⟨p,c,none⟩ u):=by
 refine Gn he (fun q t' cs hq ht'=>?_) (by simpa using hg.size)
 subst ht';rw [Below.heap_setCell _ _ _ _ (by rintro rfl;have:=hq.symm.trans h.rg;simp at this)]
 exact hg.block q hq.lt (Bl hv hq (Ne.symm ht))
theorem keep_push (h:Ez B p H E C z V) {base:Nat} {t:TypeId} {size n:Nat} {v:Value} {xs:List Value} (hv:V.ownsRow base t size v n xs) (hb:B<=base) (hg:V.grownBy V' v.ownBlock) (c:Nat) (u:Value) :
  Cm B p V (V'.setCell ⟨p,c,none⟩ u)/\KeepsOthers V (V'.setCell ⟨p,c,none⟩ u) :=
 ⟨⟨hg.os,hg.tape,hg.output,by simpa using hg.size,fun k hk hne=>by
  rw [Below.heap_setCell _ _ _ _ hne];exact hg.block k (by have:=h.lt.2;omega) fun e=>by have:=(hv.lt k e.symm).1;omega⟩,(Ja hv hg).trans (KeepsOthers.setCell _ _ _)⟩
theorem rg_push (h:Ez B p H E C z V) {base:Nat} {t:TypeId} {size n:Nat} {v:Value} {xs:List Value} (hv:V.ownsRow base t size v n xs) (hb:B<=base) (hg:V.grownBy V' v.ownBlock):Bk V' p 49 (Ep H E C z) :=
 (hg.block p h.rg.lt fun e=>by have:=(hv.lt p e.symm).1;have:=h.lt.1;omega).trans h.rg
theorem Jn (h:Ez B p H E C z V) {t:TypeId} {size n:Nat} {v:Value} {xs:List Value} (hv:V'.ownsRow B t size v n xs) (c:Nat) (u:Value):(V'.setCell ⟨p,c,none⟩ u).ownsRow B t size v n xs :=
 ownsRow_setCell_below hv (by simpa using h.lt.1) _
theorem Ez.pushE (h:Ez B p H E C z V) {e:EvD} (he:e.note.At V/\e.note.StrT V) {g c':Nat} (hown:V'.ownsRow B 70 21 (.slice (some ⟨g,0,none⟩) (E.length+1) c') (E.length+1) (Ak E ++ e.cells)) (hg:V.grownBy V' (Value.slice z.A2 E.length z.c2).ownBlock) (hf:(Value.slice z.A2 E.length z.c2).ownBlock=some g\/g=V.heap.size) :
  Ez B p H (E ++ [e]) C { z with A2:=some ⟨g,0,none⟩,c2:=c' } (V'.setCell ⟨p,1,none⟩ (.slice (some ⟨g,0,none⟩) (E.length+1) c')):=by
 have hl:(E ++ [e]).length=E.length+1:=by simp
 refine ⟨⟨h.lt.1,by have:=h.lt.2;have:=hg.size;simp;omega⟩,?_,?_,?_,?_,?_,?_⟩
 ·have:=(rg_push h h.es Le hg).put 1 (.slice (some ⟨g,0,none⟩) (E.length+1) c');unfold Ep at *;rw [hl];exact this
 ·exact Jn h (Bt h.hs hg fun k hk=>h.ne k hk) _ _
 ·rw [evCells_snoc,hl];exact Jn h hown _ _
 ·refine Jn h (Bt h.cs hg fun k hk e1=>?_) _ _
  obtain ⟨cs,hcs⟩:=Ck h.cs hk;exact Bl h.es hcs (by decide) e1.symm
 ·intro k hk e1;rw [ownBlock_slice] at e1;subst e1;rcases hf with hf | hf
  ·exact h.ne _ hk hf
  ·have:=(h.hs.lt _ hk).2;omega
 ·intro x hx;have hx':x.note.At V/\x.note.StrT V:=by
   rcases hx with hx | hx
   ·exact h.st x (.inl hx)
   ·rcases List.mem_append.1 hx with hx | hx
    ·exact h.st x (.inr hx)
    ·rw [List.mem_singleton.1 hx];exact he
  exact str_far h hx' h.es (by decide) hg _ _
theorem Ez.pushH (h:Ez B p H E C z V) {e:EvD} (he:e.note.At V/\e.note.StrT V) {g c':Nat} (hown:V'.ownsRow B 70 21 (.slice (some ⟨g,0,none⟩) (H.length+1) c') (H.length+1) (Ak H ++ e.cells)) (hg:V.grownBy V' (Value.slice z.A1 H.length z.c1).ownBlock) (hf:(Value.slice z.A1 H.length z.c1).ownBlock=some g\/g=V.heap.size) :
  Ez B p (H ++ [e]) E C { z with A1:=some ⟨g,0,none⟩,c1:=c' } (V'.setCell ⟨p,0,none⟩ (.slice (some ⟨g,0,none⟩) (H.length+1) c')):=by
 have hl:(H ++ [e]).length=H.length+1:=by simp
 refine ⟨⟨h.lt.1,by have:=h.lt.2;have:=hg.size;simp;omega⟩,?_,?_,?_,?_,?_,?_⟩
 ·have:=(rg_push h h.hs Le hg).put 0 (.slice (some ⟨g,0,none⟩) (H.length+1) c');unfold Ep at *;rw [hl];exact this
 ·rw [evCells_snoc,hl];exact Jn h hown _ _
 ·exact Jn h (Bt h.es hg fun k hk e1=>h.ne k e1 hk) _ _
 ·refine Jn h (Bt h.cs hg fun k hk e1=>?_) _ _
  obtain ⟨cs,hcs⟩:=Ck h.cs hk;exact Bl h.hs hcs (by decide) e1.symm
 ·intro k hk e1;rw [ownBlock_slice] at hk;subst hk;rcases hf with hf | hf
  ·exact h.ne _ hf e1
  ·have:=(h.es.lt _ e1).2;omega
 ·intro x hx;have hx':x.note.At V/\x.note.StrT V:=by
   rcases hx with hx | hx
   ·rcases List.mem_append.1 hx with hx | hx
    ·exact h.st x (.inl hx)
    ·rw [List.mem_singleton.1 hx];exact he
   ·exact h.st x (.inr hx)
  exact str_far h hx' h.hs (by decide) hg _ _
theorem Ez.rowC (h:Ez B p H E C z V) {C':List (Int×Int)} {A3:Option Addr} {c3:Nat} (hown:V'.ownsRow B 66 2 (.slice A3 C'.length c3) C'.length (C'.flatMap Dl)) (hg:V.grownBy V' (Value.slice z.A3 C.length z.c3).ownBlock) :
  Ez B p H E C' { z with A3:=A3,c3:=c3 } (V'.setCell ⟨p,2,none⟩ (.slice A3 C'.length c3)):=by
 refine ⟨⟨h.lt.1,by have:=h.lt.2;have:=hg.size;simp;omega⟩,?_,?_,?_,?_,h.ne,?_⟩
 ·have:=(rg_push h h.cs Le hg).put 2 (.slice A3 C'.length c3);unfold Ep at *;exact this
 ·refine Jn h (Bt h.hs hg fun k hk e1=>?_) _ _
  obtain ⟨cs,hcs⟩:=Ck h.hs hk;exact Bl h.cs hcs (by decide) e1.symm
 ·refine Jn h (Bt h.es hg fun k hk e1=>?_) _ _
  obtain ⟨cs,hcs⟩:=Ck h.es hk;exact Bl h.cs hcs (by decide) e1.symm
 ·exact Jn h hown _ _
 ·intro x hx;exact str_far h (h.st x hx) h.cs (by decide) hg _ _
end
def EffP (B p:Nat) (H E:List EvD) (C:List (Int×Int)) (ok:Bool) (w:World) (e:Ending) (w':World):Prop :=
 e=.returned (.bool ok)/\Cm B p w w'/\KeepsOthers w w'/\(∃ z,Ez B p H E C z w')/\(ok=false->Below w.heap.size w w')
end
end Go.Proofs.YteihcodicfoiaaaGreat
