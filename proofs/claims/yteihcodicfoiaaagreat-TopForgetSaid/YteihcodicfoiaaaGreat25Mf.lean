/-
  What is proved: contracts and plain facts that TopForget stands on (CheckS, Maps, SetOf, RangeM, Judge, CountN, SitP, NamesD, SortW).
-/
import Derived.Test.YteihcodicfoiaaaGreatFormedMf
import Derived.Test.YteihcodicfoiaaaGreat21Mf
import Derived.Deep.RegionHeld3
import Derived.Deep.DeepCutAuto
import Derived.Test.YteihcodicfoiaaaGreatCloneAMf
import Derived.Test.YteihcodicfoiaaaGreat0Mf
import Derived.Lib.QuietBelow
import Derived.Shelf.SlSortCmp.InsertionK
namespace Go.Proofs.YteihcodicfoiaaaGreat
set_option maxRecDepth 100000
set_option maxHeartbeats 8000000
open Go Go.RowKit
section
def Aw (l:List Ab):List Value:=l.flatMap fun n=>n.arr.toList
structure Gm (w:World) (A:Option Addr) (l:List Ab):Prop where
 row:Ad w A (Aw l)
 str:∀ n∈l,n.At w
theorem Gm.below {w w':World} {A:Option Addr} {l:List Ab} (h:Gm w A l) (hb:Below w.heap.size w w'):Gm w' A l :=
 ⟨h.row.below hb,fun n hn=>(h.str n hn).below hb⟩
theorem note_load {w:World} {A:Option Addr} {l:List Ab} (h:Gm w A l) (h0:0<l.length) :
  ∃ b off,A=some ⟨b,off,none⟩/\b<w.heap.size/\∀ k,k<l.length->Hb 68 (.pointer (some ⟨b,off+k*19,none⟩)) w=.ok (.agg (l.getD k Bq).arr) w:=by
 have hl:(Aw l).length=l.length*19:=Ci _ 19 (fun _=>rfl) l
 obtain ⟨b,off,h1,h2,h3⟩:=h.row.some_ (by omega)
 refine ⟨b,off,h1,h2,fun k hk=>?_⟩
 have:=loadN_at (ty:=68) (w:=w) (b:=b) (off:=off+k*19) (cs:=(l.getD k Bq).arr.toList) (fun j u hu=>?_) (rfl) Tryz.underlying68 (by kernel_rfl)
 ·simpa using this
 ·have hj:j<19:=(List.getElem?_eq_some_iff.1 hu).1;have e:=Cw (fun n:Ab=>n.arr.toList) 19 (fun _=>rfl) (by omega) l k j hk hj
  rw [Aj _ _ hk] at hu;rw [Nat.add_assoc];exact h3 (k*19+j) u (e.trans hu)
theorem note_at {w:World} {A:Option Addr} {b off:Nat} {l:List Ab} (h0:Gm w A l) (hA:A=some ⟨b,off,none⟩) {k:Nat} (hk:k<l.length):Hb 68 (.pointer (some ⟨b,off+k*19,none⟩)) w=.ok (.agg (l.getD k Bq).arr) w:=by
 have h:=h0;rw [hA] at h;obtain ⟨b',off',h1,_,h3⟩:=note_load h (by omega)
 simp only [Option.some.injEq,Addr.mk.injEq,and_true] at h1;obtain ⟨rfl,rfl⟩:=h1;exact h3 k hk
def csOk (f:FrD) (l:List Ab) (k:Nat):Bool:=Ar f (l.getD k Bq) && (decide (k=0) || decide (Dt (l.getD (k - 1) Bq).name (l.getD k Bq).name<0))
def setB (f:FrD) (l:List Ab):Bool:=decide (l.length<=400) && (List.range l.length).all (csOk f l)
theorem setB_bad {f:FrD} {l:List Ab} {k:Nat} (hk:k<l.length) (h:csOk f l k=false):setB f l=false:=by
 have:(List.range l.length).all (csOk f l)=false:=by
  rw [List.all_eq_false];exact ⟨k,List.mem_range.2 hk,by simp [h]⟩
 simp [setB,this]
def CheckSetP (f:FrD) (l:List Ab) (w:World) (e:Ending) (w':World):Prop :=
 Below w.heap.size w w'/\((setB f l=true/\e=.returned (.tuple #[.int .i64 0,.int .i64 0]))\/(setB f l=false/\∃ n i:Int,n≠0/\e=.returned (.tuple #[.int .i64 n,.int .i64 i])))
attribute [local go_sem ↓] Cd Bu Ek Dh
theorem CheckSet_any (f:FrD) (hf:f.Ok) (A:Option Addr) (c:Nat) (l:List Ab) (w:World) (hl:Gm w A l) (hn:l.length<=9223372036854775807) (hs:∀ n∈l,n.strokes.length<=9223372036854775807) :
  Calls Tryz.prog 84 #[f.val,.slice A l.length c] w (CheckSetP f l w):=by
 have HVA:=Hd (fun X:World=>fvalid_any f hf X)
 have HFM:=Hd (fun (X:World) (h:Below w.heap.size w X) (n:Ab) (hn:n∈l)=>formed_any f n X hf ((hl.below h).str n hn) (hs n hn))
 have HL:=Hd (fun (X:World) (h:Below w.heap.size w X)=>hl.below h)
 unfold FrD.val at *;obtain ⟨W,hW⟩:∃ W,(w.alloc (.cells #[.int .i64 f.rings,.int .i64 f.sec,.int .i64 f.wide] 45)).alloc (.cells #[.int .i64 f.rings,.int .i64 f.sec,.int .i64 f.wide] 112)=W:=⟨_,rfl⟩;have hbW:Below w.heap.size w W:=by rw [<- hW];exact Ba.alloc (by simp) _
 have X:=(show Bk W (w.heap.size+1) 112 #[.int .i64 f.rings,.int .i64 f.sec,.int .i64 f.wide] by rw [<- hW];exact Aa (by simp))
 have HW:=Hd hW;have hlt:=X.lt;clear hW hl hs;go_enter Tryz.func84,Tryz.ntmps84;go_upto_region 2 with fail
 rw [HW.out];clear HW;have x0:=X.cell 0;have x1:=X.cell 1;have x2:=X.cell 2;simp at x0 x1 x2;have HX:=Hd X;clear X;have HV:=Hd (HVA.out W);clear HVA;go_wp2_with fail;refine HV.out.mono ?_;rintro e w1 ⟨rfl,hb1⟩;have X1:=HX.out.keep hb1;have hB1:=hbW.trans (hb1.mono hbW.size);clear HX HV x0 x1 x2 hb1 hlt hbW
 by_cases h400:l.length<=400
 ·have h4I:¬ (l.length:Int) > 400:=by omega
  have H4:=Hd h400;go_wp2_with fail;go_loopw [22] (fun i wr=>∃ k:Nat,k<=l.length/\i=.int .i64 k/\Below w.heap.size w wr/\Bk wr (w.heap.size+1) 112 #[.int .i64 f.rings,.int .i64 f.sec,.int .i64 f.wide]/\Hid (∀ j,j<k->csOk f l j=true)) (fun i _=>l.length - (intOf i).toNat)
  case atStart=>exact ⟨0,Nat.zero_le _,rfl,hB1,X1,fun j h=>absurd h (by omega)⟩
  case round =>
   clear hB1 X1;obtain ⟨k,hk,rfl,hB,X,hall⟩:=hrel
   by_cases hlt:k<l.length
   ·have hkI:(k:Int)<l.length:=by omega
    obtain ⟨b5,o5,hA,hb5,hc5⟩:=note_load (HL.out wr hB) (by omega)
    have l0:=hc5 k hlt;have HLK:=Hd hc5;have HG:Hid (csOk f l k=false->setB f l=false):=fun h=>setB_bad hlt h
    have HN:Hid (csOk f l k=true->∀ j,j<k+1->csOk f l j=true):=fun h j hj=>by
     rcases Nat.lt_or_ge j k with g | g
     ·exact hall.out j g
     ·obtain rfl:j=k:=by omega
      exact h
    have HV:Hid (csOk f l k=(Ar f (l.getD k Bq) && (decide (k=0) || decide (Dt (l.getD (k - 1) Bq).name (l.getD k Bq).name<0)))):=Hd rfl
    have HFO:=Hd (fun (X:World) (h:Below w.heap.size w X)=>HFM.out X h (l.getD k Bq) (Cg Bq hlt))
    have HA:=Hd hA;rw [hA];obtain ⟨q,hq⟩:∃ q,wr.heap.size=q:=⟨_,rfl⟩;have hXq:=X.lt;have hBq:=hB.size;have hbq:b5<q:=by omega
    have s1:=Be (ty:=68) (cs:=(l.getD k Bq).arr) (Aa (w:=wr) (t:=68) (cs:=z68) hq) (by kernel_rfl) rfl (Eb _)
    have Y:Bk ((wr.alloc (.cells z68 68)).setRow q (l.getD k Bq).arr) q 68 (l.getD k Bq).arr:=Bj (Aa hq) _;have X2:Bk ((wr.alloc (.cells z68 68)).setRow q (l.getD k Bq).arr) (w.heap.size+1) 112 _:=(X.alloc _).farRow (by omega) _
    have hB2:Below w.heap.size w ((wr.alloc (.cells z68 68)).setRow q (l.getD k Bq).arr):=Aq (hB.alloc (by omega) _) (by omega) _
    have HK:=Hd (Ai Y (Ai X2 hB2));clear Y X2 hB2 X hB hall hA HLK;generalize hng:l.getD k Bq=n at *;have HNG:=Hd hng;clear hng hc5
    by_cases hk0:0<k
    ·have hk0I:(k:Int) > 0:=by omega
     have e1:(k:Int) - 1=((k - 1:Nat):Int):=by omega
     have hm1:((k - 1:Nat):Int)<l.length:=by omega
     have ew:=IntWalk.i64_in (((k - 1:Nat):Int)) (by omega)
     go_upto_region 11 with fail
     clear s1 hq l0;generalize (wr.alloc _).setRow q _=V at *;obtain ⟨Y,X,hB⟩:=HK.out;clear HK;obtain ⟨b6,o6,hA6,hb6,hc6⟩:=note_load (HL.out V hB) (by omega)
     obtain ⟨rfl,rfl⟩:b5=b6/\o5=o6:=by
      have:=HA.out.symm.trans hA6;injection this with this
      injection this with h1 h2 h3
      exact ⟨h1,h2⟩
     have ll:=fun x:Ext V=>(note_at (HL.out x.w (hB.trans (x.bel.mono hB.size))) HA.out (by omega:k - 1<l.length))
     have ly:=fun x:Ext V=>Ah n (Y.keep x.bel)
     have HV2:Hid (csOk f l k=(Ar f n && decide (Dt (l.getD (k - 1) Bq).name n.name<0))):=by rw [HV.out,decide_eq_false (show ¬ k=0 by omega)];exact Hd rfl
     generalize l.getD (k - 1) Bq=p at *;have HNP:=Hd (fun x:Ext V=>Dx p x.w)
     have HNN:=Hd (fun x:Ext V=>Dx n x.w)
     have HCN:=Hd (fun x:Ext V=>compareNames_any p.name n.name x.w)
     unfold Ee Ab.name at HCN;simp only at HCN;have HKV:=Hd (Ai Y (Ai X hB));clear HV Y X hB hA6 hb6 hc6;refine Bg (by kernel_rfl) (by kernel_rfl) ?_
     repeat (go_big_quiet_step (first | (go_at_call 73;(first | with_reducible exact Cj (HNP.out _) | with_reducible exact Cj (HNN.out _))) | (go_at_call 90;exact Cj (HCN.out _))))
     refine wpQuiet_nil ?_;rintro _ ⟨y,rfl⟩;clear ll ly HNP HNN HCN;have hb2:=y.bel;generalize y.w=V2 at hb2 ⊢;have Y:=HKV.out.1.keep hb2;have X:=HKV.out.2.1.keep hb2;have hB:=HKV.out.2.2.trans (hb2.mono HKV.out.2.2.size);clear hb2 HKV;have HOE:Hid (Dt (p.house,p.num) (n.house,n.num)=Dt p.name n.name):=Hd rfl;generalize hov:Dt (p.house,p.num) (n.house,n.num)=o at *;have HV3:Hid (csOk f l k=(Ar f n && decide (o<0))):=by rw [HV2.out,HOE.out];exact Hd rfl
     clear hov HV2 HOE;generalize V2=V at *;have x0:=X.cell 0;have x1:=X.cell 1;have x2:=X.cell 2;simp at x0 x1 x2;have l3:=Ah n Y;have HFV:=Hd (HFO.out V hB);have HXY:=Hd (Ai X (Ai Y hB));clear X Y hB;cases q1:Ar f n with
     | false =>
      have HQ:=Hd (HG.out (by rw [HV3.out,q1];rfl))
      rw [q1] at HFV;clear q1 HV3 HG HN;go_wp2_with fail;refine HFV.out.mono ?_;rintro e v3 ⟨rfl,hb3⟩;have hB3:=HXY.out.2.2.trans (hb3.mono HXY.out.2.2.size);have X3:=HXY.out.1.keep hb3;clear HXY hb3 HFV x0 x1 x2 l3;go_wp2_with fail;go_ret2;exact ⟨hB3,.inr ⟨HQ.out,_,_,by decide,rfl⟩⟩
     | true =>
      rw [q1] at HFV
      by_cases o0:o=0
      ·have o0b:(o == 0)=true:=by simpa using o0
       have HQ:=Hd (HG.out (by rw [HV3.out,q1,o0];rfl))
       clear q1 HV3 HG HN o0;go_wp2_with fail;refine HFV.out.mono ?_;rintro e v3 ⟨rfl,hb3⟩;have hB3:=HXY.out.2.2.trans (hb3.mono HXY.out.2.2.size);have X3:=HXY.out.1.keep hb3;clear HXY hb3 HFV x0 x1 x2 l3;go_wp2_with fail;go_ret2;exact ⟨hB3,.inr ⟨HQ.out,_,_,by decide,rfl⟩⟩
      ·have o0b:(o == 0)=false:=by simpa using o0
       by_cases o1:o > 0
       ·have HQ:=Hd (HG.out (by rw [HV3.out,q1,decide_eq_false (show ¬ o<0 by omega)];rfl))
        clear q1 HV3 HG HN o0;go_wp2_with fail;refine HFV.out.mono ?_;rintro e v3 ⟨rfl,hb3⟩;have hB3:=HXY.out.2.2.trans (hb3.mono HXY.out.2.2.size);have X3:=HXY.out.1.keep hb3;clear HXY hb3 HFV x0 x1 x2 l3;go_wp2_with fail;go_ret2;exact ⟨hB3,.inr ⟨HQ.out,_,_,by decide,rfl⟩⟩
       ·have HQ:=Hd (HN.out (by rw [HV3.out,q1,decide_eq_true (show o<0 by omega)];rfl))
        clear q1 HV3 HG HN o0;go_wp2_with fail;refine HFV.out.mono ?_;rintro e v3 ⟨rfl,hb3⟩;have hB3:=HXY.out.2.2.trans (hb3.mono HXY.out.2.2.size);have X3:=HXY.out.1.keep hb3;clear HXY hb3 HFV x0 x1 x2 l3;go_wp2_with fail;go_roundw
        case rel=>exact ⟨k+1,by omega,by go_num,hB3,X3,HQ⟩
        case measure=>simp [intOf];omega
    ·obtain rfl:k=0:=by omega
     have HV3:Hid (csOk f l 0=Ar f n):=Hd (by rw [HV.out];simp)
     simp only [Nat.zero_mul,Nat.add_zero] at l0;go_upto_region 12 with fail
     clear s1 hq l0 HV;generalize (wr.alloc _).setRow q _=V at *;obtain ⟨Y,X,hB⟩:=HK.out;clear HK;have x0:=X.cell 0;have x1:=X.cell 1;have x2:=X.cell 2;simp at x0 x1 x2;have l3:=Ah n Y;have HFV:=Hd (HFO.out V hB);have HXY:=Hd (Ai X (Ai Y hB));clear X Y hB;cases q1:Ar f n with
     | false =>
      have HQ:=Hd (HG.out (by rw [HV3.out,q1]))
      rw [q1] at HFV;clear q1 HV3 HG HN;go_wp2_with fail;refine HFV.out.mono ?_;rintro e v3 ⟨rfl,hb3⟩;have hB3:=HXY.out.2.2.trans (hb3.mono HXY.out.2.2.size);have X3:=HXY.out.1.keep hb3;clear HXY hb3 HFV x0 x1 x2 l3;go_wp2_with fail;go_ret2;exact ⟨hB3,.inr ⟨HQ.out,_,_,by decide,rfl⟩⟩
     | true =>
      rw [q1] at HFV;have HQ:=Hd (HN.out (by rw [HV3.out,q1]))
      clear q1 HV3 HG HN;go_wp2_with fail;refine HFV.out.mono ?_;rintro e v3 ⟨rfl,hb3⟩;have hB3:=HXY.out.2.2.trans (hb3.mono HXY.out.2.2.size);have X3:=HXY.out.1.keep hb3;clear HXY hb3 HFV x0 x1 x2 l3;go_wp2_with fail;go_roundw
      case rel=>exact ⟨1,by omega,by go_num,hB3,X3,HQ⟩
      case measure=>simp [intOf];omega
   ·obtain rfl:k=l.length:=by omega
    have HQ:Hid (setB f l=true):=by
     refine Hd ?_;unfold setB;rw [decide_eq_true H4.out,Bool.true_and,List.all_eq_true];exact fun j hj=>hall.out j (List.mem_range.1 hj)
    clear hall;go_wp2_with fail;go_ret2;exact ⟨hB,.inl ⟨HQ.out,rfl⟩⟩
 ·have h4I:(l.length:Int) > 400:=by omega
  have HQ:Hid (setB f l=false):=by refine Hd ?_;unfold setB;rw [decide_eq_false h400];rfl
  go_wp2_with fail;go_ret2;exact ⟨hB1,.inr ⟨HQ.out,_,_,by decide,rfl⟩⟩
end
section
open Go.ChangeMaps (setBlock)
theorem makeMap_run {P:Program} (t:TypeId) (w:World):(Instr.makeMap t none).run P w=.ok (.map (some w.heap.size)) (w.alloc (.map #[] 0)):=rfl
def Bv (w:World) (g:Nat) (f:Br):Prop:=∃ es c,w.heap[g]?=some (.map es c)/\MapF f es c
theorem Bv.lt {w:World} {g:Nat} {f:Br} (h:Bv w g f):g<w.heap.size:=by
 obtain ⟨es,c,h,_⟩:=h;exact (Array.getElem?_eq_some_iff.1 h).1
theorem Bv.of_eq {w w':World} {g:Nat} {f:Br} (h:Bv w g f) (he:w'.heap[g]?=w.heap[g]?):Bv w' g f:=by
 obtain ⟨es,c,h,hm⟩:=h;exact ⟨es,c,he.trans h,hm⟩
theorem Bv.keep {w w':World} {B g:Nat} {f:Br} (h:Bv w g f) (hb:Below B w w') (hg:g<B):Bv w' g f:=h.of_eq (hb.block g hg)
theorem Bv.below {w w':World} {g:Nat} {f:Br} (h:Bv w g f) (hb:Below w.heap.size w w'):Bv w' g f:=h.keep hb h.lt
theorem Bv.alloc {w:World} {g:Nat} {f:Br} (h:Bv w g f) (o:Obj):Bv (w.alloc o) g f:=h.of_eq (Below.heap_alloc w o g h.lt)
theorem Bv.setRow {w:World} {g q:Nat} {f:Br} (h:Bv w g f) (hq:q≠g) (cs:Array Value):Bv (w.setRow q cs) g f:=h.of_eq (Cy (Ne.symm hq) cs)
theorem Bv.drew {w:World} {g:Nat} {f:Br} (h:Bv w g f):Bv w.drew g f:=h
theorem Bv.nil (w:World):Bv (w.alloc (.map #[] 0)) w.heap.size []:=⟨#[],0,heap_alloc_new w _,MapF.nil 0⟩
theorem Gs (w:World) (g:Nat) (o:Obj):(setBlock w g o).heap.size=w.heap.size:=by simp [setBlock]
theorem Fj {w:World} {g k:Nat} (h:k≠g) (o:Obj):(setBlock w g o).heap[k]?=w.heap[k]?:=by
 simp [setBlock,Array.getElem?_setIfInBounds,Ne.symm h]
theorem below_setBlock {B:Nat} {w w':World} (h:Below B w w') {g:Nat} (hg:B<=g) (o:Obj):Below B w (setBlock w' g o) :=
 ⟨h.os,h.tape,h.output,by rw [Gs];exact h.size,fun k hk=>by rw [Fj (by omega)];exact h.block k hk⟩
theorem name66:NameKey Tryz.prog 66 where
 und:=⟨_,Tryz.underlying66⟩
 chk:=fun e a b w=>by kernel_rfl
 eql:=fun a b c d w=>by
  unfold Ee;simp [Op.equal,Op.maxDepth,go_sem,Tryz.underlying66]
  by_cases h1:a=c<;>by_cases h2:b=d<;>simp [*]
theorem und123:Tryz.prog.underlying 123=some (.map 66 68):=by kernel_rfl
theorem und122:Tryz.prog.underlying 122=some (.map 66 68):=by kernel_rfl
theorem map_update (n:Ab) (v:Value) {mt:TypeId} (hm:Tryz.prog.underlying mt=some (.map 66 68)) {w:World} {g:Nat} {f:Br} (h:Bv w g f) :
  ∃ w',(Instr.mapUpdate mt (.map (some g)) (Ee n.house n.num) v).run Tryz.prog w=.ok () w'/\Bv w' g (setF f n.name v)/\(∀ k,k≠g->w'.heap[k]?=w.heap[k]?)/\w'.heap.size=w.heap.size/\w'.os=w.os/\w'.tape=w.tape/\w'.output=w.output:=by
 obtain ⟨es,c,hg,hf⟩:=h;obtain ⟨es',c',h1,h2⟩:=run_updateF name66 hm n.house n.num v g es c w f hg hf;refine ⟨_,h1,⟨es',c',?_,h2⟩,fun k hk=>Fj hk _,Gs _ _ _,rfl,rfl,rfl⟩
 have:=(Array.getElem?_eq_some_iff.1 hg).1;simp [setBlock,this]
theorem findIx_append (k:Int×Int):∀ (f:Br) (i:Nat),k ∉ f.map Prod.fst->Ex k f i=none:=fun f i h=>(findIx_none k f i).2 h
theorem setF_new {f:Br} {k:Int×Int} {v:Value} (h:k ∉ f.map Prod.fst):setF f k v=f ++ [(k,v)]:=by
 unfold setF;rw [findIx_append k f 0 h]
def Cp (l:List Ab):Br:=l.map fun n=>(n.name,.agg n.arr)
theorem setFn_keys (l:List Ab):(Cp l).map Prod.fst=l.map Ab.name:=by simp [Cp]
theorem setB_each {f:FrD} {l:List Ab} (h:setB f l=true):l.length<=400/\∀ k,k<l.length->csOk f l k=true:=by
 simp only [setB,Bool.and_eq_true,decide_eq_true_eq,List.all_eq_true,List.mem_range] at h;exact h
theorem setB_formed {f:FrD} {l:List Ab} (h:setB f l=true):∀ n∈l,Ar f n=true:=by
 intro n hn;obtain ⟨i,hi,rfl⟩:=List.getElem_of_mem hn;have:=(setB_each h).2 i hi;simp only [csOk,Bool.and_eq_true,Aj _ _ hi] at this;exact this.1
theorem setB_rise {f:FrD} {l:List Ab} (h:setB f l=true):∀ i j,i<j->j<l.length->Dy (l.getD i Bq).name (l.getD j Bq).name:=by
 intro i j hij
 induction j with
 | zero=>omega
 | succ j ih =>
  intro hj;have h1:=(setB_each h).2 (j+1) hj;simp only [csOk,Bool.and_eq_true,Bool.or_eq_true,decide_eq_true_eq] at h1;have h2:Dy (l.getD j Bq).name (l.getD (j+1) Bq).name:=by
   rcases h1.2 with h1 | h1
   ·omega
   ·exact (cmpName_lt _ _).1 (by simpa using h1)
  rcases Nat.lt_or_ge i j with g | g
  ·exact nameLt_trans (ih g (by omega)) h2
  ·obtain rfl:i=j:=by omega
   exact h2
theorem Ka {f:FrD} {l:List Ab} (h:setB f l=true):(l.map Ab.name).Nodup:=by
 rw [List.nodup_iff_pairwise_ne,List.pairwise_iff_getElem];intro i j hi hj hij e;simp only [List.length_map] at hi hj;have:=setB_rise h i j hij hj;rw [Aj _ _ hi,Aj _ _ hj] at this;simp only [List.getElem_map] at e;rw [e] at this;exact nameLt_irrefl _ this
theorem setFn_step {l:List Ab} (hn:(l.map Ab.name).Nodup) {k:Nat} (hk:k<l.length):setF (Cp (l.take k)) (l.getD k Bq).name (.agg (l.getD k Bq).arr)=Cp (l.take (k+1)):=by
 rw [setF_new]
 ·rw [List.take_add_one,List.getElem?_eq_getElem hk,Aj _ _ hk];unfold Cp;rw [List.map_append];rfl
 ·rw [setFn_keys];intro hm;obtain ⟨x,hx,he⟩:=List.mem_map.1 hm;obtain ⟨i,hi,rfl⟩:=List.getElem_of_mem hx;rw [List.length_take] at hi;rw [List.getElem_take,Aj _ _ hk] at he;have h5:(l.map Ab.name)[i]'(by simp;omega)=(l.map Ab.name)[k]'(by simpa using hk):=by simpa using he
  have:=(List.getElem_inj hn).1 h5;omega
end
section
def SetP (f:FrD) (l:List Ab) (w:World) (e:Ending) (w':World):Prop :=
 Below w.heap.size w w'/\((setB f l=true/\∃ g,w.heap.size<=g/\Bv w' g (Cp l)/\e=.returned (.tuple #[.map (some g),.bool true]))\/(setB f l=false/\e=.returned (.tuple #[.map none,.bool false])))
attribute [local go_sem] makeMap_run
attribute [local go_sem ↓] Cd Bu Ek Dh
theorem setOf_any (f:FrD) (hf:f.Ok) (A:Option Addr) (c:Nat) (l:List Ab) (w:World) (hl:Gm w A l) (hn:l.length<=9223372036854775807) (hs:∀ n∈l,n.strokes.length<=9223372036854775807) :
  Calls Tryz.prog 41 #[f.val,.slice A l.length c] w (SetP f l w):=by
 have HCS:=Hd (fun (X:World) (h:Below w.heap.size w X)=>CheckSet_any f hf A c l X (hl.below h) hn hs)
 have HL:=Hd (fun (X:World) (h:Below w.heap.size w X)=>hl.below h)
 unfold FrD.val at *;obtain ⟨W,hW⟩:∃ W,(w.alloc (.cells #[.int .i64 f.rings,.int .i64 f.sec,.int .i64 f.wide] 45))=W:=⟨_,rfl⟩;have hbW:Below w.heap.size w W:=by rw [<- hW];exact Ba
 have X:=(show Bk W w.heap.size 45 #[.int .i64 f.rings,.int .i64 f.sec,.int .i64 f.wide] by rw [<- hW];exact Aa rfl)
 have HW:=Hd hW;have x0:=X.cell 0;have x1:=X.cell 1;have x2:=X.cell 2;simp at x0 x1 x2;have HC:=Hd (HCS.out W hbW);clear hW hl hs X;go_enter Tryz.func41,Tryz.ntmps41;go_upto_region 1 with fail
 rw [HW.out];clear HW;go_wp2_with fail;refine HC.out.mono ?_;rintro e w1 ⟨hb1,⟨hok,rfl⟩ | ⟨hno,n,i,hn0,rfl⟩⟩
 ·have hB1:=hbW.trans (hb1.mono hbW.size);have HOK:=Hd hok;have M0:=Bv.nil w1;have hB2:=hB1.alloc (by have:=hB1.size;omega) (.map #[] 0)
  have hgs:=hB1.size;clear x0 x1 x2 HC HCS hok hb1 hbW;go_wp2_with fail;go_loopw [22] (fun i wr=>∃ k:Nat,k<=l.length/\i=.int .i64 k/\Below w.heap.size w wr/\Bv wr w1.heap.size (Cp (l.take k))) (fun i _=>l.length - (intOf i).toNat)
  case atStart=>exact ⟨0,Nat.zero_le _,rfl,hB2,M0⟩
  case round =>
   clear hB2 M0;obtain ⟨k,hk,rfl,hB,M⟩:=hrel
   by_cases hlt:k<l.length
   ·have hkI:(k:Int)<l.length:=by omega
    obtain ⟨b5,o5,hA,hb5,hc5⟩:=note_load (HL.out wr hB) (by omega)
    have l0:=hc5 k hlt;rw [hA];obtain ⟨q,hq⟩:∃ q,wr.heap.size=q:=⟨_,rfl⟩;have hBq:=hB.size;have hbq:b5<q:=by omega
    have hMq:=M.lt;have s1:=Be (ty:=68) (cs:=(l.getD k Bq).arr) (Aa (w:=wr) (t:=68) (cs:=z68) hq) (by kernel_rfl) rfl (Eb _)
    have Y:Bk ((wr.alloc (.cells z68 68)).setRow q (l.getD k Bq).arr) q 68 (l.getD k Bq).arr:=Bj (Aa hq) _;have M2:=(M.alloc (.cells z68 68)).setRow (q:=q) (by omega) (l.getD k Bq).arr
    have hB2:Below w.heap.size w ((wr.alloc (.cells z68 68)).setRow q (l.getD k Bq).arr):=Aq (hB.alloc (by omega) _) (by omega) _
    have HK:=Hd (Ai Y (Ai M2 hB2));have hqg:q≠w1.heap.size:=by omega
    have HST:=Hd (setFn_step (Ka HOK.out) hlt);clear Y M M2 hB2 hB hA;generalize hng:l.getD k Bq=n at *;clear hng hc5;go_upto_region 8 with fail
    clear s1 hq l0;generalize (wr.alloc _).setRow q _=V at *;obtain ⟨Y,M,hB⟩:=HK.out;clear HK;have ln:Hb 68 (.pointer (some ⟨q,0,none⟩)) V.drew=.ok (.agg n.arr) V.drew:=Ah n Y.drew;have HYM:=Hd (show Bk V.drew q 68 n.arr/\Bv V.drew w1.heap.size (Cp (l.take k))/\Below w.heap.size w V.drew from ⟨Y.drew,M,hB.drew⟩)
    have HNN:=Hd (Dx n V.drew);clear Y M hB;go_region_held3 (fun w'=>Hb 68 (.pointer (some ⟨q,0,none⟩)) w'=.ok (.agg n.arr) w') (first | exact ln | exact ln2 | exact ln3)
     (first
     | (go_at_call 73;refine HNN.out.mono ?_;rintro e w2 ⟨rfl,hb2⟩;have ln2:=Ah n (HYM.out.1.keep hb2);obtain ⟨w3,hup,M3,far3,sz3,os3,tp3,ou3⟩:=map_update n (.agg n.arr) und123 (HYM.out.2.1.below hb2);have ln3:=Ah n (show Bk w3 q 68 n.arr from (far3 q hqg).trans (HYM.out.1.keep hb2));unfold Ee at *))
    have hB3:Below w.heap.size w w3:=by
     have h:=HYM.out.2.2.trans (hb2.mono HYM.out.2.2.size);exact ⟨os3.trans h.os,tp3.trans h.tape,ou3.trans h.output,by rw [sz3];exact h.size,fun i hi=>(far3 i (by omega)).trans (h.block i hi)⟩
    rw [HST.out] at M3;clear ln ln2 ln3 hup far3 sz3 os3 tp3 ou3 hb2 HYM HNN HST;go_wp2_with fail;go_roundw
    case rel=>exact ⟨k+1,by omega,by go_num,hB3,M3⟩
    case measure=>simp [intOf];omega
   ·have hkI:¬ (k:Int)<l.length:=by omega
    obtain rfl:k=l.length:=by omega
    rw [List.take_length] at M;go_wp2_with fail;go_ret2;exact ⟨hB,.inl ⟨HOK.out,_,hgs,M,rfl⟩⟩
 ·have hB1:=hbW.trans (hb1.mono hbW.size);have HNO:=Hd hno;have hnb:(n == 0)=false:=by simpa using hn0
  clear x0 x1 x2 HC HCS hno hb1 hbW hn0;go_wp2_with fail;go_ret2;exact ⟨hB1,.inr ⟨HNO.out,rfl⟩⟩
end
section
open Go.ChangeMaps (setBlock)
def Ch (w:World) (r:Nat):Nat:=match w.heap[r]? with
 | some (.mapIter (some bm) _ seen _)=>(match w.heap[bm]? with
  | some (.map es _)=>(leftOf es seen).size
  | _=>0)
 | _=>0
theorem Dr.rest {w:World} {r bm:Nat} {f D:Br} (h:Dr w r bm f D):D.length+Ch w r=f.length:=by
 obtain ⟨es,clock,since,seen,c0,hr,hb,hi,_,_,_,ds,rfl,hp⟩:=h;have hlen:=hp.length_eq;have hfl:f.length=es.toList.length:=by rw [<- hi.entF];simp
 unfold Ch;rw [hr];simp only;rw [hb];simp only;rw [List.length_append] at hlen;rw [List.length_map,hfl]
 simpa using hlen
theorem Dr.lt {w:World} {r bm:Nat} {f D:Br} (h:Dr w r bm f D):r<w.heap.size/\bm<w.heap.size:=by
 obtain ⟨es,clock,since,seen,c0,hr,hb,_⟩:=h;exact ⟨(Array.getElem?_eq_some_iff.1 hr).1,(Array.getElem?_eq_some_iff.1 hb).1⟩
theorem Dr.below {w w':World} {r bm:Nat} {f D:Br} (h:Dr w r bm f D) (hb:Below w.heap.size w w'):Dr w' r bm f D:=h.keep (hb.block r h.lt.1) (hb.block bm h.lt.2)
theorem Dr.map {w:World} {r bm:Nat} {f D:Br} (h:Dr w r bm f D):Bv w bm f:=by
 obtain ⟨es,clock,since,seen,c0,hr,hb,hm,_⟩:=h;exact ⟨es,clock,hb,hm⟩
theorem range_start {mt:TypeId} (hm:Tryz.prog.underlying mt=some (.map 66 68)) {w:World} {g:Nat} {f:Br} (h:Bv w g f) :
  ∃ w',(Instr.range mt (.map (some g))).run Tryz.prog w=.ok (.pointer (some ⟨w.heap.size,0,none⟩)) w'/\Dr w' w.heap.size g f []/\Below w.heap.size w w':=by
 obtain ⟨es,c,hg,hf⟩:=h;exact ⟨_,run_range_map w mt 66 68 g es c hm hg,Dr.start hg hf,Ba⟩
theorem range_next {w:World} {r g:Nat} {f D:Br} (h:Dr w r g f D) (hne:g≠r) :
  (D.Perm f/\∀ ty,(Instr.next (.pointer (some ⟨r,0,none⟩)) false ty).run Tryz.prog w=.ok (.tuple #[.bool false]) w)\/
  ∃ (k:Int×Int) (v:Value) (w':World),(k,v)∈f/\(∀ ty,(Instr.next (.pointer (some ⟨r,0,none⟩)) false ty).run Tryz.prog w=.ok (.tuple #[.bool true,.agg #[.int .i64 k.1,.int .i64 k.2],v]) w')/\Dr w' r g f (D ++ [(k,v)])/\Below r w w'/\(∀ q,q≠r->w'.heap[q]?=w.heap[q]?)/\
   (Instr.entry (.pointer (some ⟨r,0,none⟩))).run Tryz.prog w'=.ok (.tuple #[.agg #[.int .i64 k.1,.int .i64 k.2],v]) w':=by
 rcases Dr.next (P:=Tryz.prog) h hne 0 with ⟨h1,h2⟩ | ⟨k,v,w1,w',h1,h2,h3,⟨o,h4⟩,h5,h6,h7⟩
 ·exact .inl ⟨h1,fun ty=>h2⟩
 ·refine .inr ⟨k,v,w',h1,fun ty=>h5,h6,?_,?_,h7⟩
  ·subst h4;rcases h3 with rfl | rfl
   ·exact ⟨rfl,rfl,rfl,by rw [Gs];exact Nat.le_refl _,fun i hi=>Fj (by omega) _⟩
   ·exact below_setBlock (Below.refl r w).drew Le _
  ·intro q hq;subst h4;rcases h3 with rfl | rfl
   ·exact Fj hq _
   ·exact Fj hq _
theorem asof1_any (n:Ab) (a b:Int) (m:Int) (p:Nat) (t:TypeId) (w:World) (hp:Bk w p t #[.int .i64 m]) :
  Calls Tryz.prog 43 #[.agg #[.int .i64 a,.int .i64 b],.agg n.arr,.pointer (some ⟨p,0,none⟩)] w fun e w'=>e=.returned (.bool (decide (n.clock > m)))/\Below w.heap.size w w':=by
 obtain ⟨W,hW⟩:∃ W,(w.alloc (.cells #[.int .i64 a,.int .i64 b] 66)).alloc (.cells n.arr 68)=W:=⟨_,rfl⟩;have hbW:Below w.heap.size w W:=by rw [<- hW];exact Ba.alloc (by simp) _
 have X:=(show Bk W (w.heap.size+1) 68 n.arr by rw [<- hW];exact Aa (by simp))
 have p0:=(hp.keep hbW).cell 0;have x2:=X.cell 2;simp [Ab.arr] at x2 p0;have HW:=Hd hW;clear hW X hp;go_enter Tryz.func43,Tryz.ntmps43;go_upto_region 1 with fail
 rw [HW.out];clear HW;go_wp2_with fail;go_ret;exact ⟨rfl,hbW⟩
attribute [local go_sem ↓] Cd Bu Ek Dh
theorem delete_any (l:List Ab) (m:Int) (p g:Nat) (t:TypeId) (w:World) (hp:Bk w p t #[.int .i64 m]) (hm:Bv w g (Cp l)) (hc:∀ n∈l,¬ n.clock > m) :
  Calls Tryz.prog 42 #[.map (some g),.func (.func 43) #[] #[.pointer (some ⟨p,0,none⟩)]] w fun e w'=>e=.returned (.tuple #[])/\Below w.heap.size w w':=by
 obtain ⟨w1,hrun,R,hB⟩:=range_start und123 hm;have hglt:=hm.lt;have HP:=Hd hp;have HC:=Hd hc;clear hm hp hc;go_enter Tryz.func42,Tryz.ntmps42;go_upto_region 1 with fail
 clear hrun;go_loopw [8] (fun _ wr=>∃ D,Dr wr w.heap.size g (Cp l) D/\Below w.heap.size w wr) (fun _ wr=>Ch wr w.heap.size)
 case atStart=>exact ⟨[],R,hB⟩
 case round =>
  clear R hB;obtain ⟨D,R,hB⟩:=hrel;rcases range_next R (by omega) with ⟨_,hnx⟩ | ⟨k,v,w2,hmem,hnx,R2,hb2,far2,hent⟩
  ·clear R;go_wp2_with fail;exact bodyPost_end (results_none rfl _ _ _) rfl ⟨rfl,hB⟩
  ·have hB2:=hB.trans hb2;clear hb2 far2;obtain ⟨n,hn,hkv⟩:=List.mem_map.1 hmem;injection hkv with hk hv
   obtain ⟨k1,k2⟩:=k;unfold Ab.name at hk;injection hk with h1 h2
   subst h1;subst h2;subst hv;have e1:=R.rest;have e2:=R2.rest;have hrest:Ch w2 w.heap.size<Ch wr w.heap.size:=by rw [List.length_append] at e2;simp at e2;omega
   clear R e1 e2 hmem;obtain ⟨q,hq⟩:∃ q,w2.heap.size=q:=⟨_,rfl⟩;have hq1:(w2.alloc (.cells #[.int .i64 n.house,.int .i64 n.num] 66)).heap.size=q+1:=by simp [hq]
   have hBq:=hB2.size;have s1:=Be (ty:=68) (cs:=n.arr) (Aa (t:=68) (cs:=z68) hq1) (by kernel_rfl) rfl (Eb _)
   have Y:Bk (((w2.alloc (.cells #[.int .i64 n.house,.int .i64 n.num] 66)).alloc (.cells z68 68)).setRow (q+1) n.arr) (q+1) 68 n.arr:=Bj (Aa hq1) _;have N:Bk (((w2.alloc (.cells #[.int .i64 n.house,.int .i64 n.num] 66)).alloc (.cells z68 68)).setRow (q+1) n.arr) q 66 #[.int .i64 n.house,.int .i64 n.num]:=((Aa hq).alloc _).farRow (by omega) _
   have hB3:Below w2.heap.size w2 (((w2.alloc (.cells #[.int .i64 n.house,.int .i64 n.num] 66)).alloc (.cells z68 68)).setRow (q+1) n.arr):=Aq (Ba.alloc (by simp) _) (by omega) _
   have R3:=R2.below hB3;have HREST:Hid (Ch (((w2.alloc (.cells #[.int .i64 n.house,.int .i64 n.num] 66)).alloc (.cells z68 68)).setRow (q+1) n.arr) w.heap.size<Ch wr w.heap.size):=by
    have e1:=R2.rest;have e2:=R3.rest;exact Hd (by omega)
   have hB4:=hB2.trans (hB3.mono hBq);have HK:=Hd (Ai R3 hB4);have HCL:=Hd (asof1_any n n.house n.num m p t (((w2.alloc (.cells #[.int .i64 n.house,.int .i64 n.num] 66)).alloc (.cells z68 68)).setRow (q+1) n.arr) (HP.out.keep hB4));have hcl:decide (n.clock > m)=false:=decide_eq_false (by have:=HC.out n hn;omega)
   rw [hcl] at HCL;have ln:=Ah n Y;have n0:=N.cell 0;have n1:=N.cell 1;simp at n0 n1;clear hB2 R2 hrest hB3 R3 hB4 Y N hcl;go_upto_region 3 with fail
   clear s1 hnx hent hq hq1;generalize ((w2.alloc _).alloc _).setRow _ _=V at *;go_wp2_with fail;refine HCL.out.mono ?_;rintro e w3 ⟨rfl,hb3⟩;obtain ⟨R,hB⟩:=HK.out;have R3:=R.below hb3;have hB3:=hB.trans (hb3.mono hB.size);have HR3:Hid (Ch w3 w.heap.size<Ch wr w.heap.size):=by
    have e1:=R.rest;have e2:=R3.rest;have:=HREST.out;exact Hd (by omega)
   clear n0 n1 ln HK HCL HREST R hB hb3;go_wp2_with fail;go_roundw
   case rel=>exact ⟨_,R3,hB3⟩
   case measure=>exact HR3.out
end
section
def Ab.plain (n:Ab):Ab:={ n with sA:=none,sc:=0 }
theorem Ad.of_heap {w w':World} {A:Option Addr} {xs:List Value} (h:Ad w A xs) (he:∀ a,A=some a->w'.heap[a.block]?=w.heap[a.block]?) (hs:w.heap.size<=w'.heap.size):Ad w' A xs:=fun h0=>by
 obtain ⟨b,off,rfl,h1,h2⟩:=h h0;have:=he _ rfl;refine ⟨b,off,rfl,by omega,fun j u hu=>?_⟩
 have h3:=h2 j u hu;simp only [World.cell?] at h3 ⊢;rw [this];exact h3
theorem Kc {w:World} {base:Nat} {e:TypeId} {size n m c:Nat} {A:Option Addr} {xs:List Value} (h:w.ownsRow base e size (.slice A m c) n xs):∀ a,A=some a->base<=a.block/\a.block<w.heap.size:=by
 rintro a rfl;rcases h.2 with ⟨hv,_⟩ | ⟨g,cap,cur,hv,hb,hg,_⟩
 ·cases hv
 ·injection hv with hv
  injection hv with hv
  subst hv;exact ⟨hb,(Array.getElem?_eq_some_iff.1 hg).1⟩
def Ab.StrT (n:Ab) (w:World):Prop:=∀ a,n.sA=some a->∃ cs,Bk w a.block 3 cs
theorem Ab.StrT.of_heap {n:Ab} {w w':World} (h:n.StrT w) (he:∀ a,n.sA=some a->w'.heap[a.block]?=w.heap[a.block]?):n.StrT w':=fun a ha=>by
 obtain ⟨cs,hc⟩:=h a ha;exact ⟨cs,(he a ha).trans hc⟩
theorem own_ty {w:World} {base:Nat} {e:TypeId} {size n m c:Nat} {A:Option Addr} {xs:List Value} (h:w.ownsRow base e size (.slice A m c) n xs):∀ a,A=some a->∃ cs,Bk w a.block e cs:=by
 rintro a rfl;rcases h.2 with ⟨hv,_⟩ | ⟨g,cap,cur,hv,hb,hg,_⟩
 ·cases hv
 ·injection hv with hv
  injection hv with hv
  subst hv;exact ⟨cur,hg⟩
theorem clone_ints_new (A:Option Addr) (c n:Nat) (xs:List Value) (w:World) (hn:n<=65536) (hl:xs.length=n*1) (h1:Fo xs) (hx:Ad w A xs) :
  Calls Tryz.prog 111 #[.slice A n c] w fun e w'=>(∃ A c,e=.returned (.slice A n c)/\Ad w' A xs/\(∀ a,A=some a->w.heap.size<=a.block/\a.block<w'.heap.size)/\∀ a,A=some a->∃ cs,Bk w' a.block 3 cs)/\Below w.heap.size w w':=by
 by_cases h0:0<n
 ·obtain ⟨b,off,rfl,hr⟩:=hx.some_ (by omega)
  refine (clone_ints_some b off c n xs w hn hl h1 hr).mono ?_;rintro e w' ⟨v,rfl,hown,hb⟩;obtain ⟨A',c',rfl,_,h3,h4⟩:=Au hown;exact ⟨⟨A',c',rfl,h3,Kc hown,own_ty hown⟩,hb⟩
 ·obtain rfl:n=0:=by omega
  obtain rfl:xs=[]:=List.eq_nil_of_length_eq_zero (by omega)
  cases A with
  | none =>
   refine (clone_ints_nil' c w).mono ?_;rintro e w' ⟨rfl,rfl⟩;exact ⟨⟨none,0,rfl,(fun h=>by simp at h),(fun a h=>by cases h),(fun a h=>by cases h)⟩,Below.refl _ _⟩
  | some a =>
   refine (clone_ints_zero a c w).mono ?_;rintro e w' ⟨v,rfl,hown,hb⟩;obtain ⟨A',c',rfl,_,h3,_⟩:=Au hown;exact ⟨⟨A',c',rfl,h3,Kc hown,own_ty hown⟩,hb⟩
attribute [local go_sem ↓] Cd Bu Ek Dh
theorem copied_any (n:Ab) (w:World) (h:n.At w) (hn:n.strokes.length<=65536) :
  Calls Tryz.prog 134 #[.agg n.arr] w fun e w'=>(∃ n':Ab,n'.plain=n.plain/\n'.At w'/\(∀ a,n'.sA=some a->w.heap.size<=a.block/\a.block<w'.heap.size)/\n'.StrT w'/\e=.returned (.agg n'.arr))/\Below w.heap.size w w':=by
 obtain ⟨W,hW⟩:∃ W,(w.alloc (.cells n.arr 68)).alloc (.cells z68 68)=W:=⟨_,rfl⟩;have hbW:Below w.heap.size w W:=by rw [<- hW];exact Ba.alloc (by simp) _
 have X:=(show Bk W w.heap.size 68 n.arr by rw [<- hW];exact (Aa rfl).alloc _)
 have Y:=(show Bk W (w.heap.size+1) 68 z68 by rw [<- hW];exact Aa (by simp))
 have x15:=X.cell 15;simp [Ab.arr] at x15;have HC:=Hd (clone_ints_new n.sA n.sc n.strokes.length (Ac n.strokes) W hn (by simp [Ac]) (intCells_one _) (Ad.below h hbW))
 have HW:=Hd hW;have HX:=Hd (Ai X Y);clear hW X Y h;go_enter Tryz.func134,Tryz.ntmps134;go_upto_region 1 with fail
 rw [HW.out];clear HW;have hx15:=(HX.out.1).fz 15;go_wp2_with fail;refine HC.out.mono ?_;rintro e w1 ⟨⟨A,c,rfl,r1,g1,t1⟩,hb1⟩;obtain ⟨n',hn'⟩:∃ n':Ab,n' = { n with sA:=A,sc:=c }:=⟨_,rfl⟩
 have hlt:=HX.out.1.lt;have hlt2:=HX.out.2.lt;have X1:Bk (w1.setCell ⟨w.heap.size,15,none⟩ (.slice A n.strokes.length c)) w.heap.size 68 n'.arr:=by rw [hn'];exact (HX.out.1.keep hb1).put 15 (.slice A n.strokes.length c)
 have Y1:=(HX.out.2.keep hb1).far (p:=⟨w.heap.size,15,none⟩) (by simp) (.slice A n.strokes.length c)
 have hx15':=(HX.out.1.keep hb1).fz 15;have hx15c:=(HX.out.1.keep hb1).cell 15;simp [Ab.arr] at hx15c;have l1:=Ah n' X1;have s1:=Be (ty:=68) (cs:=n'.arr) Y1 (by kernel_rfl) rfl (Eb _)
 have R1:Ad (w1.setCell ⟨w.heap.size,15,none⟩ (.slice A n.strokes.length c)) n'.sA (Ac n'.strokes):=by
  rw [hn'];exact r1.farA (fun a ha=>by have:=(g1 a ha).1;simp;omega) _
 have G1:∀ a,n'.sA=some a->a.block≠w.heap.size+1:=by
  intro a ha;rw [hn'] at ha;have:=(g1 a ha).1;omega
 have Y2:Bk ((w1.setCell ⟨w.heap.size,15,none⟩ (.slice A n.strokes.length c)).setRow (w.heap.size+1) n'.arr) (w.heap.size+1) 68 n'.arr:=Bj Y1 _;have R2:Ad ((w1.setCell ⟨w.heap.size,15,none⟩ (.slice A n.strokes.length c)).setRow (w.heap.size+1) n'.arr) n'.sA (Ac n'.strokes):=R1.of_heap (fun a ha=>Cy (G1 a ha) _) (by rw [Fi];exact Nat.le_refl _)
 have hB1:=hbW.trans (hb1.mono hbW.size);have hB2:Below w.heap.size w ((w1.setCell ⟨w.heap.size,15,none⟩ (.slice A n.strokes.length c)).setRow (w.heap.size+1) n'.arr):=Aq (hB1.setCell (p:=⟨w.heap.size,15,none⟩) (by simp) _) (by omega) _
 have hsz1:=hb1.size;have G2:∀ a,n'.sA=some a->w.heap.size<=a.block/\a.block<((w1.setCell ⟨w.heap.size,15,none⟩ (.slice A n.strokes.length c)).setRow (w.heap.size+1) n'.arr).heap.size:=by
  intro a ha;rw [hn'] at ha;have:=g1 a ha;rw [Fi];simp;omega
 have T2:n'.StrT ((w1.setCell ⟨w.heap.size,15,none⟩ (.slice A n.strokes.length c)).setRow (w.heap.size+1) n'.arr):=fun a ha=>by
  have g2:=G1 a ha;rw [hn'] at ha;obtain ⟨cs,hc⟩:=t1 a ha;have g3:=(g1 a ha).1;exact ⟨cs,(Cy g2 _).trans (hc.far (p:=⟨w.heap.size,15,none⟩) (by simp;omega) _)⟩
 have HALL:=Hd (Ai (show n'.plain=n.plain by rw [hn'];rfl) (Ai (Ai R2 (Ai G2 T2)) (Ai hB2 Y2)))
 clear hn' R2 G2 T2 t1 hB2 Y2 R1 G1 X1 Y1 r1 g1 hb1 hB1 HX hx15 HC x15 hbW;go_wp2_with fail;obtain ⟨hpl,⟨R2,G2,T2⟩,hB2,Y2⟩:=HALL.out;refine bodyPost_ret (v:=.agg n'.arr) (results_cell_row rfl _ _ _ 68 _ (0,0) _ rfl Y2 Tryz.underlying68 rfl (by kernel_rfl)) rfl ?_
 exact ⟨⟨n',hpl,R2,G2,T2,rfl⟩,hB2⟩
theorem judges_any (x r:Ab) (w:World) :
  Calls Tryz.prog 85 #[.agg x.arr,.agg r.arr] w fun e w'=>e=.returned (.bool (Jp x r))/\Below w.heap.size w w':=by
 obtain ⟨W,hW⟩:∃ W,(w.alloc (.cells x.arr 68)).alloc (.cells r.arr 68)=W:=⟨_,rfl⟩;have hbW:Below w.heap.size w W:=by rw [<- hW];exact Ba.alloc (by simp) _
 have X:=(show Bk W w.heap.size 68 x.arr by rw [<- hW];exact (Aa rfl).alloc _)
 have Y:=(show Bk W (w.heap.size+1) 68 r.arr by rw [<- hW];exact Aa (by simp))
 have x4:=X.cell 4;have x18:=X.cell 18;have y4:=Y.cell 4;simp [Ab.arr] at x4 x18 y4;have HW:=Hd hW;clear hW X Y
 by_cases h6:x.kind=6
 ·have b6:(x.kind == 6)=true:=by simpa using h6
  go_enter Tryz.func85,Tryz.ntmps85;go_upto_region 1 with fail
  rw [HW.out];clear HW;go_wp2_with fail;go_ret;exact ⟨Af (by simp [Jp, *]),hbW⟩
 ·have b6:(x.kind == 6)=false:=by simpa using h6
  by_cases h5:x.kind=5
  ·have b5:(x.kind == 5)=true:=by simpa using h5
   by_cases h2:x.fix=2
   ·have b2:(x.fix == 2)=true:=by simpa using h2
    go_enter Tryz.func85,Tryz.ntmps85;go_upto_region 1 with fail
    rw [HW.out];clear HW;go_wp2_with fail;go_ret;exact ⟨Af (by simp [Jp, *]),hbW⟩
   ·have b2:(x.fix == 2)=false:=by simpa using h2
    go_enter Tryz.func85,Tryz.ntmps85;go_upto_region 1 with fail
    rw [HW.out];clear HW;go_wp2_with fail;go_ret;exact ⟨Af (by simp [Jp, *]),hbW⟩
  ·have b5:(x.kind == 5)=false:=by simpa using h5
   go_enter Tryz.func85,Tryz.ntmps85;go_upto_region 1 with fail
   rw [HW.out];clear HW;go_wp2_with fail;go_ret;exact ⟨Af (by simp [Jp, *]),hbW⟩
end
section
theorem plain_eq {n' n:Ab} (h:n'.plain=n.plain):∃ A c,n' = { n with sA:=A,sc:=c }:=by
 cases n';cases n;simp only [Ab.plain,Ab.mk.injEq] at h;obtain ⟨rfl,rfl,rfl,rfl,rfl,rfl,rfl,rfl,rfl,rfl,rfl,rfl,rfl,rfl,rfl,rfl,_,_,rfl,rfl,rfl⟩:=h;exact ⟨_,_,rfl⟩
attribute [local go_sem ↓] Cd Bu Ek Dh
theorem counts_any (r j:Ab) (w:World) (h:j.At w) (hn:j.strokes.length<=65536) :
  Calls Tryz.prog 133 #[.agg r.arr,.agg j.arr] w fun e w'=>(∃ n':Ab,n'.plain=(Eq r j).plain/\n'.At w'/\(∀ a,n'.sA=some a->w.heap.size<=a.block)/\e=.returned (.agg n'.arr))/\Below w.heap.size w w':=by
 obtain ⟨W,hW⟩:∃ W,((w.alloc (.cells r.arr 68)).alloc (.cells j.arr 68)).alloc (.cells z68 68)=W:=⟨_,rfl⟩;have hbW:Below w.heap.size w W:=by rw [<- hW];exact (Ba.alloc (by simp) _).alloc (by simp;omega) _
 have X:=(show Bk W w.heap.size 68 r.arr by rw [<- hW];exact ((Aa rfl).alloc _).alloc _)
 have Y:=(show Bk W (w.heap.size+1) 68 j.arr by rw [<- hW];exact (Aa (by simp)).alloc _)
 have R:=(show Bk W (w.heap.size+2) 68 z68 by rw [<- hW];exact Aa (by simp))
 have HC:=Hd (copied_any j W (Ab.At.below h hbW) hn);have l0:=Ah j Y;have HW:=Hd hW;have HX:=Hd (Ai X (Ai Y R));clear hW X Y R h;go_enter Tryz.func133,Tryz.ntmps133;go_upto_region 1 with fail
 rw [HW.out];clear HW;go_wp2_with fail;refine HC.out.mono ?_;rintro e w1 ⟨⟨n',hp,ha,hg,ht,rfl⟩,hb1⟩;clear ht;obtain ⟨q,hq⟩:∃ q,w1.heap.size=q:=⟨_,rfl⟩;have hB1:=hbW.trans (hb1.mono hbW.size);have hlt:=HX.out.2.2.lt;have hsz1:=hb1.size;have s1:=Be (ty:=68) (cs:=n'.arr) (Aa (w:=w1) (t:=68) (cs:=z68) hq) (by kernel_rfl) rfl (Eb _)
 have N:Bk ((w1.alloc (.cells z68 68)).setRow q n'.arr) q 68 n'.arr:=Bj (Aa hq) _;have X2:=((HX.out.1.keep hb1).alloc (.cells z68 68)).farRow (g:=q) (by omega) n'.arr
 have Y2:=((HX.out.2.1.keep hb1).alloc (.cells z68 68)).farRow (g:=q) (by omega) n'.arr
 have R2:=((HX.out.2.2.keep hb1).alloc (.cells z68 68)).farRow (g:=q) (by omega) n'.arr
 have hB2:Below w.heap.size w ((w1.alloc (.cells z68 68)).setRow q n'.arr):=Aq (hB1.alloc (by omega) _) (by omega) _
 have hA2:n'.At ((w1.alloc (.cells z68 68)).setRow q n'.arr):=ha.below (Aq Ba (by omega) _)
 have HK:=Hd (Ai N (Ai X2 (Ai Y2 (Ai R2 (Ai hB2 hA2)))));have HQ:=Hd (show w.heap.size+2<q by omega)
 have HAQ:=Hd (fun a (h:n'.sA=some a)=>show a.block≠q by have:=(hg a h).2;omega)
 have HAR:=Hd (fun a (h:n'.sA=some a)=>show w.heap.size+2<a.block by have:=(hg a h).1;omega)
 clear N X2 Y2 R2 hB2 hA2 HX HC hB1 hb1 l0 ha hg hbW hlt;go_upto_region 2 with fail
 clear s1 hq;generalize (w1.alloc _).setRow q _=V at *;obtain ⟨A,c,rfl⟩:=plain_eq hp;clear hp;have x0:=HK.out.2.1.cell 0;have x1:=HK.out.2.1.cell 1;have x2:=HK.out.2.1.cell 2;have y18:=HK.out.2.2.1.cell 18;have k0:=HK.out.1.fz 0;have n0:=HK.out.1.cell 0;have k1:=HK.out.1.fz 1;have n1:=HK.out.1.cell 1;have k2:=HK.out.1.fz 2;have n2:=HK.out.1.cell 2;have k4:=HK.out.1.fz 4;have n4:=HK.out.1.cell 4;have k16:=HK.out.1.fz 16;have n16:=HK.out.1.cell 16;have k17:=HK.out.1.fz 17;have n17:=HK.out.1.cell 17;have k18:=HK.out.1.fz 18;have n18:=HK.out.1.cell 18;have nl:=HK.out.1.lt;have hq0:w.heap.size≠q:=by have:=HQ.out;omega
 have hq1:w.heap.size+1≠q:=by have:=HQ.out;omega
 simp [Ab.arr] at x0 x1 x2 y18 n0 n1 n2 n4 n16 n17 n18;go_region;have hq2:w.heap.size+2≠q:=by have:=HQ.out;omega
 have hq3:w.heap.size<=q:=by have:=HQ.out;omega
 have hAq:∀ a,A=some a->a.block≠q:=HAQ.out;have M0:Bk (((((((V.setCell ⟨q,0,none⟩ (.int .i64 r.house)).setCell ⟨q,1,none⟩ (.int .i64 r.num)).setCell ⟨q,2,none⟩ (.int .i64 r.clock)).setCell ⟨q,4,none⟩ (.int .i64 j.fix)).setCell ⟨q,18,none⟩ (.int .i64 0)).setCell ⟨q,16,none⟩ (.int .i64 0)).setCell ⟨q,17,none⟩ (.int .i64 0)).drew q 68 (Ab.arr { j with sA:=A,sc:=c,house:=r.house,num:=r.num,clock:=r.clock,kind:=j.fix,fix:=0,rh:=0,rn:=0 }):=Bk.drew (((((((HK.out.1.put 0 (.int .i64 r.house)).put 1 (.int .i64 r.num)).put 2 (.int .i64 r.clock)).put 4 (.int .i64 j.fix)).put 18 (.int .i64 0)).put 16 (.int .i64 0)).put 17 (.int .i64 0))
 have R0:=Bk.drew (((((((HK.out.2.2.2.1.far (p:=⟨q,0,none⟩) hq2 (.int .i64 r.house)).far (p:=⟨q,1,none⟩) hq2 (.int .i64 r.num)).far (p:=⟨q,2,none⟩) hq2 (.int .i64 r.clock)).far (p:=⟨q,4,none⟩) hq2 (.int .i64 j.fix)).far (p:=⟨q,18,none⟩) hq2 (.int .i64 0)).far (p:=⟨q,16,none⟩) hq2 (.int .i64 0)).far (p:=⟨q,17,none⟩) hq2 (.int .i64 0));have X0:=Bk.drew (((((((HK.out.2.1.far (p:=⟨q,0,none⟩) hq0 (.int .i64 r.house)).far (p:=⟨q,1,none⟩) hq0 (.int .i64 r.num)).far (p:=⟨q,2,none⟩) hq0 (.int .i64 r.clock)).far (p:=⟨q,4,none⟩) hq0 (.int .i64 j.fix)).far (p:=⟨q,18,none⟩) hq0 (.int .i64 0)).far (p:=⟨q,16,none⟩) hq0 (.int .i64 0)).far (p:=⟨q,17,none⟩) hq0 (.int .i64 0));have B0:=Below.drew (((((((HK.out.2.2.2.2.1.setCell (p:=⟨q,0,none⟩) hq3 (.int .i64 r.house)).setCell (p:=⟨q,1,none⟩) hq3 (.int .i64 r.num)).setCell (p:=⟨q,2,none⟩) hq3 (.int .i64 r.clock)).setCell (p:=⟨q,4,none⟩) hq3 (.int .i64 j.fix)).setCell (p:=⟨q,18,none⟩) hq3 (.int .i64 0)).setCell (p:=⟨q,16,none⟩) hq3 (.int .i64 0)).setCell (p:=⟨q,17,none⟩) hq3 (.int .i64 0));have A0:Ad (((((((V.setCell ⟨q,0,none⟩ (.int .i64 r.house)).setCell ⟨q,1,none⟩ (.int .i64 r.num)).setCell ⟨q,2,none⟩ (.int .i64 r.clock)).setCell ⟨q,4,none⟩ (.int .i64 j.fix)).setCell ⟨q,18,none⟩ (.int .i64 0)).setCell ⟨q,16,none⟩ (.int .i64 0)).setCell ⟨q,17,none⟩ (.int .i64 0)).drew A (Ac j.strokes):=Ad.drew_ (Ad.farA (Ad.farA (Ad.farA (Ad.farA (Ad.farA (Ad.farA (Ad.farA HK.out.2.2.2.2.2 (p:=⟨q,0,none⟩) (fun a h=>hAq a h) (.int .i64 r.house)) (p:=⟨q,1,none⟩) (fun a h=>hAq a h) (.int .i64 r.num)) (p:=⟨q,2,none⟩) (fun a h=>hAq a h) (.int .i64 r.clock)) (p:=⟨q,4,none⟩) (fun a h=>hAq a h) (.int .i64 j.fix)) (p:=⟨q,18,none⟩) (fun a h=>hAq a h) (.int .i64 0)) (p:=⟨q,16,none⟩) (fun a h=>hAq a h) (.int .i64 0)) (p:=⟨q,17,none⟩) (fun a h=>hAq a h) (.int .i64 0))
 clear x0 x1 x2 y18 n0 n1 n2 n4 n18 n16 n17 k0 k1 k2 k4 k18 k16 k17 nl HK;generalize ((((((((V.setCell ⟨q,0,none⟩ (.int .i64 r.house)).setCell ⟨q,1,none⟩ (.int .i64 r.num)).setCell ⟨q,2,none⟩ (.int .i64 r.clock)).setCell ⟨q,4,none⟩ (.int .i64 j.fix)).setCell ⟨q,18,none⟩ (.int .i64 0)).setCell ⟨q,16,none⟩ (.int .i64 0)).setCell ⟨q,17,none⟩ (.int .i64 0))).drew=U at *;have m4:=M0.cell 4;simp [Ab.arr] at m4
 by_cases hfix:j.fix=2
 ·have bfix:(j.fix == 2)=true:=by simpa using hfix
  have x16:=X0.cell 16;have x17:=X0.cell 17;have m16:=M0.cell 16;have m17:=M0.cell 17;have g16:=M0.fz 16;have g17:=M0.fz 17;have ml:=M0.lt;simp [Ab.arr] at x16 x17 m16 m17;have M1:Bk ((U.setCell ⟨q,16,none⟩ (.int .i64 r.rh)).setCell ⟨q,17,none⟩ (.int .i64 r.rn)) q 68 (Ab.arr { j with sA:=A,sc:=c,house:=r.house,num:=r.num,clock:=r.clock,kind:=j.fix,fix:=0,rh:=r.rh,rn:=r.rn }):=(M0.put 16 (.int .i64 r.rh)).put 17 (.int .i64 r.rn)
  have R1:=(R0.far (p:=⟨q,16,none⟩) hq2 (.int .i64 r.rh)).far (p:=⟨q,17,none⟩) hq2 (.int .i64 r.rn);have B1:=(B0.setCell (p:=⟨q,16,none⟩) hq3 (.int .i64 r.rh)).setCell (p:=⟨q,17,none⟩) hq3 (.int .i64 r.rn);have A1:=(A0.farA (p:=⟨q,16,none⟩) (fun a h=>hAq a h) (.int .i64 r.rh)).farA (p:=⟨q,17,none⟩) (fun a h=>hAq a h) (.int .i64 r.rn)
  obtain ⟨m,hm⟩:∃ m:Ab,m = { j with sA:=A,sc:=c,house:=r.house,num:=r.num,clock:=r.clock,kind:=j.fix,fix:=0,rh:=r.rh,rn:=r.rn }:=⟨_,rfl⟩
  have HM:=Hd (show m.plain=(Eq r j).plain/\Bk ((U.setCell ⟨q,16,none⟩ (.int .i64 r.rh)).setCell ⟨q,17,none⟩ (.int .i64 r.rn)) q 68 m.arr/\Bk ((U.setCell ⟨q,16,none⟩ (.int .i64 r.rh)).setCell ⟨q,17,none⟩ (.int .i64 r.rn)) (w.heap.size+2) 68 _/\Below w.heap.size w ((U.setCell ⟨q,16,none⟩ (.int .i64 r.rh)).setCell ⟨q,17,none⟩ (.int .i64 r.rn))/\m.At ((U.setCell ⟨q,16,none⟩ (.int .i64 r.rh)).setCell ⟨q,17,none⟩ (.int .i64 r.rn))/\∀ a,m.sA=some a->w.heap.size+2<a.block from by
   rw [hm];exact ⟨by unfold Eq;rw [if_pos hfix];rfl,M1,R1,B1,A1,HAR.out⟩)
  clear hm M1 R1 B1 A1 M0 R0 X0 B0 A0;go_upto_region 5 with fail
  clear x16 x17 m16 m17 g16 g17 ml m4;generalize (U.setCell _ _).setCell _ _=U at *;have l7:=Ah m HM.out.2.1;have s2:=Be (ty:=68) (cs:=m.arr) HM.out.2.2.1 (by kernel_rfl) rfl (Eb _)
  have Y9:Bk (U.setRow (w.heap.size+2) m.arr) (w.heap.size+2) 68 m.arr:=Bj HM.out.2.2.1 _;have B9:Below w.heap.size w (U.setRow (w.heap.size+2) m.arr):=Aq HM.out.2.2.2.1 (by omega) _
  have A9:m.At (U.setRow (w.heap.size+2) m.arr):=Ad.of_heap HM.out.2.2.2.2.1 (fun a h=>Cy (by have:=HM.out.2.2.2.2.2 a h;omega) _) (by rw [Fi];exact Nat.le_refl _)
  have H9:=Hd (Ai Y9 (Ai B9 A9));clear Y9 B9 A9;go_wp2_with fail;refine bodyPost_ret (v:=.agg m.arr) (results_cell_row rfl _ _ _ 68 _ (0,0) _ rfl H9.out.1 Tryz.underlying68 rfl (by kernel_rfl)) rfl ?_
  exact ⟨⟨m,HM.out.1,H9.out.2.2,fun a h=>by have:=HM.out.2.2.2.2.2 a h;omega,rfl⟩,H9.out.2.1⟩
 ·have bfix:(j.fix == 2)=false:=by simpa using hfix
  obtain ⟨m,hm⟩:∃ m:Ab,m = { j with sA:=A,sc:=c,house:=r.house,num:=r.num,clock:=r.clock,kind:=j.fix,fix:=0,rh:=0,rn:=0 }:=⟨_,rfl⟩
  have HM:=Hd (show m.plain=(Eq r j).plain/\Bk U q 68 m.arr/\Bk U (w.heap.size+2) 68 _/\Below w.heap.size w U/\m.At U/\∀ a,m.sA=some a->w.heap.size+2<a.block from by
   rw [hm];exact ⟨by unfold Eq;rw [if_neg hfix];rfl,M0,R0,B0,A0,HAR.out⟩)
  clear hm M0 R0 X0 B0 A0;go_upto_region 5 with fail
  clear m4;have l7:=Ah m HM.out.2.1;have s2:=Be (ty:=68) (cs:=m.arr) HM.out.2.2.1 (by kernel_rfl) rfl (Eb _)
  have Y9:Bk (U.setRow (w.heap.size+2) m.arr) (w.heap.size+2) 68 m.arr:=Bj HM.out.2.2.1 _;have B9:Below w.heap.size w (U.setRow (w.heap.size+2) m.arr):=Aq HM.out.2.2.2.1 (by omega) _
  have A9:m.At (U.setRow (w.heap.size+2) m.arr):=Ad.of_heap HM.out.2.2.2.2.1 (fun a h=>Cy (by have:=HM.out.2.2.2.2.2 a h;omega) _) (by rw [Fi];exact Nat.le_refl _)
  have H9:=Hd (Ai Y9 (Ai B9 A9));clear Y9 B9 A9;go_wp2_with fail;refine bodyPost_ret (v:=.agg m.arr) (results_cell_row rfl _ _ _ 68 _ (0,0) _ rfl H9.out.1 Tryz.underlying68 rfl (by kernel_rfl)) rfl ?_
  exact ⟨⟨m,HM.out.1,H9.out.2.2,fun a h=>by have:=HM.out.2.2.2.2.2 a h;omega,rfl⟩,H9.out.2.1⟩
end
section
theorem best_snoc {l:List Ab} {x:Ab} (hn:∀ a∈l ++ [x],∀ b∈l ++ [x],a.name=b.name->a=b) :
  best (l ++ [x])=match best l with
   | none=>some x
   | some y=>if Hf y x<0 then some x else some y:=by
 cases h:best l with
 | none =>
  rw [best_none h];rfl
 | some y =>
  have h1:=best_mem h;have h2:=best_le h;simp only
  split
  ·rename_i hlt;rw [knownC_lt] at hlt;refine best_eq (by simp) hn fun z hz=>?_
   rcases List.mem_append.1 hz with hz | hz
   ·intro g;exact h2 z hz (knownLt_trans hlt g)
   ·simp at hz;subst hz;exact fun g=>Hx g g
  ·rename_i hlt;rw [knownC_lt] at hlt;refine best_eq (by simp [h1]) hn fun z hz=>?_
   rcases List.mem_append.1 hz with hz | hz
   ·exact h2 z hz
   ·simp at hz;subst hz;exact hlt
def Kd (l:List Ab) (k:Int×Int):Option Ab:=l.find? fun n=>n.name == k
theorem noteOf_some {l:List Ab} {k:Int×Int} {n:Ab} (h:Kd l k=some n):n∈l/\n.name=k:=by
 unfold Kd at h;refine ⟨List.mem_of_find?_eq_some h,?_⟩;have:=List.find?_some h
 simpa using this
theorem noteOf_mem {l:List Ab} (hn:(l.map Ab.name).Nodup) {n:Ab} (h:n∈l):Kd l n.name=some n:=by
 cases h2:Kd l n.name with
 | none =>
  unfold Kd at h2;rw [List.find?_eq_none] at h2;have:=h2 n h;simp at this
 | some m =>
  obtain ⟨h3,h4⟩:=noteOf_some h2;rw [Ke hn h3 h h4]
theorem lookF_setFn:∀ (l:List Ab) (k:Int×Int),Ha (Cp l) k=(Kd l k).map fun n=>.agg n.arr
 | [],_=>rfl
 | x :: l,k=>by
  have ih:=lookF_setFn l k;unfold Ha Kd Cp at *;simp only [List.map_cons,Ex,List.find?_cons]
  by_cases h:x.name=k
  ·rw [if_pos h];simp [h]
  ·rw [if_neg h,findIx_shift];have:(x.name == k)=false:=by simpa using h
   rw [this];simp only;rw [<- ih,Option.map_map];cases Ex k (List.map (fun n=>(n.name,Value.agg n.arr)) l) 0<;>rfl
def seated (l:List Ab) (x:Ab):Bool:=!Gw x && (match Kd l x.ref with
 | some r=>Gw r && Jp x r
 | none=>false)
def Ej (l:List Ab) (k:Int×Int) (x:Ab):Bool:=seated l x && x.ref == k
def Fs (l D:List Ab) (J:Br):Prop:=∀ k,Ha J k=(best (D.filter (Ej l k))).map fun n=>.agg n.arr
theorem Fs.nil (l:List Ab):Fs l [] []:=fun _=>rfl
theorem Fs.out {l D:List Ab} {J:Br} (h:Fs l D J) {x:Ab} (hx:seated l x=false):Fs l (D ++ [x]) J:=fun k=>by
 rw [List.filter_append];have:Ej l k x=false:=by unfold Ej;rw [hx];rfl
 rw [List.filter_cons,this];simp only [Bool.false_eq_true,if_false,List.filter_nil,List.append_nil];exact h k
theorem filter_inj {D:List Ab} {x:Ab} (hn:∀ a∈D ++ [x],∀ b∈D ++ [x],a.name=b.name->a=b) (p:Ab->Bool):∀ a∈D.filter p ++ [x],∀ b∈D.filter p ++ [x],a.name=b.name->a=b:=by
 have hs:∀ a∈D.filter p ++ [x],a∈D ++ [x]:=by
  intro a ha;rcases List.mem_append.1 ha with ha | ha
  ·exact List.mem_append_left _ (List.mem_filter.1 ha).1
  ·exact List.mem_append_right _ ha
 exact fun a ha b hb=>hn a (hs a ha) b (hs b hb)
theorem Fs.keep {l D:List Ab} {J:Br} (h:Fs l D J) {x y:Ab} (hn:∀ a∈D ++ [x],∀ b∈D ++ [x],a.name=b.name->a=b) (hx:seated l x=true) (hy:best (D.filter (Ej l x.ref))=some y) (hk:¬ Hf y x<0):Fs l (D ++ [x]) J:=fun k=>by
 rw [List.filter_append]
 by_cases hr:x.ref=k
 ·subst hr;have:Ej l x.ref x=true:=by unfold Ej;rw [hx];simp
  rw [List.filter_cons,this];simp only [if_true,List.filter_nil];rw [best_snoc (filter_inj hn _),hy];simp only;rw [if_neg hk,h x.ref,hy]
 ·have:Ej l k x=false:=by unfold Ej;simp [hr]
  rw [List.filter_cons,this];simp only [Bool.false_eq_true,if_false,List.filter_nil,List.append_nil];exact h k
theorem Fs.put {l D:List Ab} {J:Br} (h:Fs l D J) (hJ:(J.map Prod.fst).Nodup) {x:Ab} (hn:∀ a∈D ++ [x],∀ b∈D ++ [x],a.name=b.name->a=b) (hx:seated l x=true)
  (hy:∀ y,best (D.filter (Ej l x.ref))=some y->Hf y x<0):Fs l (D ++ [x]) (setF J x.ref (.agg x.arr)):=fun k=>by
 rw [List.filter_append,lookF_setF hJ]
 by_cases hr:x.ref=k
 ·subst hr;have:Ej l x.ref x=true:=by unfold Ej;rw [hx];simp
  rw [List.filter_cons,this];simp only [if_true,List.filter_nil];rw [best_snoc (filter_inj hn _)];cases hb:best (D.filter (Ej l x.ref)) with
  | none=>rfl
  | some y =>
   simp only;rw [if_pos (hy y hb)];rfl
 ·have:Ej l k x=false:=by unfold Ej;simp [hr]
  rw [List.filter_cons,this];simp only [Bool.false_eq_true,if_false,List.filter_nil,List.append_nil];rw [if_neg (Ne.symm hr)];exact h k
theorem heldFor_cand {l:List Ab} (hn:(l.map Ab.name).Nodup) {n x:Ab} (h:n∈l) (hd:Gw n=true):Ej l n.name x=cand n x:=by
 unfold Ej seated cand
 by_cases hr:x.ref=n.name
 ·rw [hr,noteOf_mem hn h];simp [hd]
 ·have:(x.ref == n.name)=false:=by simpa using hr
  rw [this];simp
theorem best_perm {l m:List Ab} (hp:l.Perm m) (hn:∀ a∈m,∀ b∈m,a.name=b.name->a=b):best l=best m:=by
 cases h:best m with
 | none =>
  have:=best_none h;subst this;rw [List.Perm.eq_nil hp];rfl
 | some y =>
  refine best_eq (hp.mem_iff.2 (best_mem h)) (fun a ha b hb=>hn a (hp.mem_iff.1 ha) b (hp.mem_iff.1 hb)) fun x hx=>best_le h x (hp.mem_iff.1 hx)
end
section
open Go.Sort (grow)
def BelD (w w':World):Prop:=Below w.heap.size w w'/\w.drawn<=w'.drawn
theorem BelD.grown {w w':World} (h:BelD w w'):∃ q os,w'=grow (w.drewN q) os:=by
 obtain ⟨p,hp⟩:=regrown_of_below h.1;have hd:w'.drawn=p.d:=by rw [hp];rfl
 refine ⟨p.d - w.drawn,p.os,?_⟩;have h2:=h.2;have e:w.drawn+(p.d - w.drawn)=p.d:=by omega
 rw [hp]
 show grow { w with drawn:=p.d } p.os=grow { w with drawn:=w.drawn+(p.d - w.drawn) } p.os
 rw [e]
variable {P:Program}
def Hz (w:World):Type:={ x:World // BelD w x }
instance extDInhabited (w:World):Nonempty (Hz w):=⟨⟨w,Below.refl _ _,Nat.le_refl _⟩⟩
def Hz.w {w:World} (x:Hz w):World:=x.1
theorem Hz.bel {w:World} (x:Hz w):Below w.heap.size w x.w:=x.2.1
theorem Hz.dr {w:World} (x:Hz w):w.drawn<=x.w.drawn:=x.2.2
theorem Hz.here (w:World):∃ x:Hz w,{ w with drawn:=w.drawn+1 } = x.w:=⟨⟨{ w with drawn:=w.drawn+1 },⟨rfl,rfl,rfl,Nat.le_refl _,fun _ _=>rfl⟩,Nat.le_succ _⟩,rfl⟩
theorem extD_of {f:FuncId} {args:Array Value} {w:World} {x:Hz w} {v:Value} (h:Calls P f args x.w fun e w'=>e=.returned v/\BelD x.w w') :
  Calls P f args x.w fun e w''=>e=.returned v/\∃ y:Hz w,w''=y.w :=
 h.mono fun _ _ ⟨he,hb⟩=>⟨he,⟨_,x.bel.trans (hb.1.mono x.bel.size),Nat.le_trans x.dr hb.2⟩,rfl⟩
theorem extD_same {f:FuncId} {args:Array Value} {w:World} {x:Hz w} {v:Value} (h:Calls P f args x.w fun e w'=>e=.returned v/\x.w=w') :
  Calls P f args x.w fun e w''=>e=.returned v/\∃ y:Hz w,w''=y.w :=
 h.mono fun _ _ ⟨he,hb⟩=>⟨he,x,hb.symm⟩
theorem wp_region_extD {id:Nat} {Q:Exit->Act->World->Prop} {a:Act} {w:World} {l:List Oper} (n:Nat) (hm:P.follows .mixedOrders=true) (hB:mixB .any l.toArray n=true)
  (hQ:∀ c a (d:Option Tmp) (v:Value) w,Q (.panic c) (a.put d v) w->Q (.panic c) a w)
  (h:wpQuiet P l.toArray (fun w'=>∃ x:Hz w,w'=x.w) (fun a'=>∀ w',(∃ x:Hz w,w'=x.w)->wpList P l.toArray Q (l.drop n) a' w') (l.take n) a):(Code.region id l.toArray true).wp P Q a w :=
 wp_region_mix n hm hB hQ (Hz.here w) h
theorem nameOf_anyD (n:Ab) (w:World) :
  Calls Tryz.prog 73 #[.agg n.arr] w fun e w'=>e=.returned (.agg #[.int .i64 n.house,.int .i64 n.num])/\BelD w w':=by
 obtain ⟨W,hW⟩:∃ W,(w.alloc (.cells n.arr 68)).alloc (.cells #[.int .i64 0,.int .i64 0] 66)=W:=⟨_,rfl⟩;have hbW:Below w.heap.size w W:=by rw [<- hW];exact Ba.alloc (by simp) _
 have hdW:w.drawn<=W.drawn:=by rw [<- hW];exact Nat.le_refl _
 have X:=(show Bk W w.heap.size 68 n.arr by rw [<- hW];exact (Aa rfl).alloc _)
 have Y:=(show Bk W (w.heap.size+1) 66 #[.int .i64 0,.int .i64 0] by rw [<- hW];exact Aa (by simp))
 unfold Ab.arr at *;have x0:=X.cell 0;have x1:=X.cell 1;have y0:=Y.cell 0;have y1:=Y.cell 1;have z0:=Y.fz 0;have z1:=Y.fz 1;have zl:=Y.lt;simp at x0 x1 y0 y1;have HW:=Hd hW;clear hW X Y;go_enter Tryz.func73,Tryz.ntmps73;go_upto_region 1 with fail
 rw [HW.out];clear HW;go_wp2_with fail;refine bodyPost_ret (v:=.agg #[.int .i64 n.house,.int .i64 n.num]) (by simp [results,Tryz.results73,go_sem,y0,y1,zl]) rfl ?_
 exact ⟨rfl,(hbW.setCell (by simp) _).setCell (by simp) _,hdW⟩
theorem compareNames_anyD (a b:Int×Int) (w:World):Calls Tryz.prog 90 #[Ee a.1 a.2,Ee b.1 b.2] w fun e w'=>e=.returned (.int .i64 (Dt a b))/\BelD w w':=by
 obtain ⟨a1,a2⟩:=a;obtain ⟨b1,b2⟩:=b;have HV:Hid (Dt (a1,a2) (b1,b2)=orV [Jl a1 b1,Jl a2 b2]):=by rw [orV_two];exact Hd rfl
 simp only;unfold Ee;obtain ⟨W,hW⟩:∃ W,(w.alloc (.cells #[.int .i64 a1,.int .i64 a2] 66)).alloc (.cells #[.int .i64 b1,.int .i64 b2] 66)=W:=⟨_,rfl⟩;have hbW:Below w.heap.size w W:=by rw [<- hW];exact Ba.alloc (by simp) _
 have hdW:w.drawn<=W.drawn:=by rw [<- hW];exact Nat.le_refl _
 have Y:Bk W w.heap.size 66 #[.int .i64 a1,.int .i64 a2]:=by rw [<- hW];exact (Aa rfl).alloc _
 have Z:Bk W (w.heap.size+1) 66 #[.int .i64 b1,.int .i64 b2]:=by rw [<- hW];exact Aa (by simp)
 have y0:=Y.cell 0;have y1:=Y.cell 1;have z0:=Z.cell 0;have z1:=Z.cell 1;simp at y0 y1 z0 z1;have HW:=Hd hW;clear hW Y Z;go_enter Tryz.func90,Tryz.ntmps90;go_upto_region 1 with fail
 rw [HW.out];clear HW;refine wp_region_extD 10 (by kernel_rfl) (by kernel_rfl) (fun _ _ d _ _ h=>by cases d<;>exact h) ?_
 simp only [List.take_succ_cons,List.take_zero,List.drop_succ_cons,List.drop_zero];replace y0:=fun x:Hz W=>Ag x.bel y0
 replace y1:=fun x:Hz W=>Ag x.bel y1
 replace z0:=fun x:Hz W=>Ag x.bel z0
 replace z1:=fun x:Hz W=>Ag x.bel z1
 repeat (go_big_quiet_step ((go_at_call 129;exact extD_same (cmpI_any _ _ _))))
 refine wpQuiet_nil ?_;rintro _ ⟨y,rfl⟩;clear y0 y1 z0 z1;have hb2:=y.bel;have hd2:=y.dr;generalize y.w=w2 at hb2 hd2 ⊢;have hB:=hbW.trans (hb2.mono hbW.size);generalize Jl a1 b1=q0 at *;generalize Jl a2 b2=q1 at *;have hR:Ad (w2.alloc (.cells #[.int .i64 q0,.int .i64 q1] 3)) (some ⟨w2.heap.size,0,none⟩) (Ac [q0,q1]):=fun _=>⟨w2.heap.size,0,rfl,by simp,fun j u hu=>by
  have:=two_at w2 (.int .i64 q0) (.int .i64 q1) 3 w2.heap.size rfl j u hu
  rwa [De] at this⟩
 have HO:=Hd (or_any _ 2 [q0,q1] _ hR (by simp))
 clear hR;go_wp2_with (go_at_call 128;refine (HO.out).mono ?_;rintro e w' ⟨rfl,rfl⟩);go_ret;exact ⟨by rw [HV.out];rfl,hB.alloc hB.size _,by simp;omega⟩
attribute [local go_sem ↓] Cd Bu
theorem known_anyD (a b:Ab) (w:World):Calls Tryz.prog 86 #[.agg a.arr,.agg b.arr] w fun e w'=>e=.returned (.int .i64 (Hf a b))/\BelD w w':=by
 have HV:Hid (Hf a b=orV [Jl a.clock b.clock,Dt a.name b.name]):=by rw [orV_two];exact Hd rfl
 obtain ⟨W,hW⟩:∃ W,(w.alloc (.cells a.arr 68)).alloc (.cells b.arr 68)=W:=⟨_,rfl⟩;have hbW:Below w.heap.size w W:=by rw [<- hW];exact Ba.alloc (by simp) _
 have hdW:w.drawn<=W.drawn:=by rw [<- hW];exact Nat.le_refl _
 have Y:Bk W w.heap.size 68 a.arr:=by rw [<- hW];exact (Aa rfl).alloc _
 have Z:Bk W (w.heap.size+1) 68 b.arr:=by rw [<- hW];exact Aa (by simp)
 have y2:=Y.cell 2;have z2:=Z.cell 2;simp [Ab.arr] at y2 z2;have l0:=fun x:Hz W=>Ah a (Y.keep x.bel)
 have l1:=fun x:Hz W=>Ah b (Z.keep x.bel)
 have HN1:=Hd (fun x:Hz W=>nameOf_anyD a x.w)
 have HN2:=Hd (fun x:Hz W=>nameOf_anyD b x.w)
 have HCN:=Hd (fun x:Hz W=>compareNames_anyD a.name b.name x.w)
 unfold Ee Ab.name at HCN;simp only at HCN;have HW:=Hd hW;clear hW Y Z;go_enter Tryz.func86,Tryz.ntmps86;go_upto_region 1 with fail
 rw [HW.out];clear HW;refine wp_region_extD 10 (by kernel_rfl) (by kernel_rfl) (fun _ _ d _ _ h=>by cases d<;>exact h) ?_
 simp only [List.take_succ_cons,List.take_zero,List.drop_succ_cons,List.drop_zero];replace y2:=fun x:Hz W=>Ag x.bel y2
 replace z2:=fun x:Hz W=>Ag x.bel z2
 repeat (go_big_quiet_step (first | (go_at_call 129;exact extD_same (cmpI_any _ _ _)) | (go_at_call 73;(first | with_reducible exact extD_of (HN1.out _) | with_reducible exact extD_of (HN2.out _))) | (go_at_call 90;exact extD_of (HCN.out _))))
 refine wpQuiet_nil ?_;rintro _ ⟨y,rfl⟩;clear y2 z2 l0 l1 HN1 HN2 HCN;have hb2:=y.bel;have hd2:=y.dr;generalize y.w=w2 at hb2 hd2 ⊢;have hB:=hbW.trans (hb2.mono hbW.size);unfold Ab.name at HV;generalize Jl a.clock b.clock=q0 at *;generalize Dt (a.house,a.num) (b.house,b.num)=q1 at *;have hR:Ad (w2.alloc (.cells #[.int .i64 q0,.int .i64 q1] 3)) (some ⟨w2.heap.size,0,none⟩) (Ac [q0,q1]):=fun _=>⟨w2.heap.size,0,rfl,by simp,fun j u hu=>by
  have:=two_at w2 (.int .i64 q0) (.int .i64 q1) 3 w2.heap.size rfl j u hu
  rwa [De] at this⟩
 have HO:=Hd (or_any _ 2 [q0,q1] _ hR (by simp))
 clear hR;go_wp2_with (go_at_call 128;refine (HO.out).mono ?_;rintro e w' ⟨rfl,rfl⟩);go_ret;exact ⟨by rw [HV.out];rfl,hB.alloc hB.size _,by simp;omega⟩
theorem when_anyD (a b:Ab) (w:World):Calls Tryz.prog 136 #[.agg a.arr,.agg b.arr] w fun e w'=>e=.returned (.int .i64 (whenC a b))/\BelD w w':=by
 have HV:Hid (whenC a b=orV [Jl a.day b.day,Hf a b]):=by rw [orV_two];exact Hd rfl
 obtain ⟨W,hW⟩:∃ W,(w.alloc (.cells a.arr 68)).alloc (.cells b.arr 68)=W:=⟨_,rfl⟩;have hbW:Below w.heap.size w W:=by rw [<- hW];exact Ba.alloc (by simp) _
 have hdW:w.drawn<=W.drawn:=by rw [<- hW];exact Nat.le_refl _
 have Y:Bk W w.heap.size 68 a.arr:=by rw [<- hW];exact (Aa rfl).alloc _
 have Z:Bk W (w.heap.size+1) 68 b.arr:=by rw [<- hW];exact Aa (by simp)
 have y3:=Y.cell 3;have z3:=Z.cell 3;simp [Ab.arr] at y3 z3;have l0:=fun x:Hz W=>Ah a (Y.keep x.bel)
 have l1:=fun x:Hz W=>Ah b (Z.keep x.bel)
 have HKN:=Hd (fun x:Hz W=>known_anyD a b x.w)
 have HW:=Hd hW;clear hW Y Z;go_enter Tryz.func136,Tryz.ntmps136;go_upto_region 1 with fail
 rw [HW.out];clear HW;refine wp_region_extD 8 (by kernel_rfl) (by kernel_rfl) (fun _ _ d _ _ h=>by cases d<;>exact h) ?_
 simp only [List.take_succ_cons,List.take_zero,List.drop_succ_cons,List.drop_zero];replace y3:=fun x:Hz W=>Ag x.bel y3
 replace z3:=fun x:Hz W=>Ag x.bel z3
 repeat (go_big_quiet_step (first | (go_at_call 129;exact extD_same (cmpI_any _ _ _)) | (go_at_call 86;exact extD_of (HKN.out _))))
 refine wpQuiet_nil ?_;rintro _ ⟨y,rfl⟩;clear y3 z3 l0 l1 HKN;have hb2:=y.bel;have hd2:=y.dr;generalize y.w=w2 at hb2 hd2 ⊢;have hB:=hbW.trans (hb2.mono hbW.size);generalize Jl a.day b.day=q0 at *;generalize Hf a b=q1 at *;have hR:Ad (w2.alloc (.cells #[.int .i64 q0,.int .i64 q1] 3)) (some ⟨w2.heap.size,0,none⟩) (Ac [q0,q1]):=fun _=>⟨w2.heap.size,0,rfl,by simp,fun j u hu=>by
  have:=two_at w2 (.int .i64 q0) (.int .i64 q1) 3 w2.heap.size rfl j u hu
  rwa [De] at this⟩
 have HO:=Hd (or_any _ 2 [q0,q1] _ hR (by simp))
 clear hR;go_wp2_with (go_at_call 128;refine (HO.out).mono ?_;rintro e w' ⟨rfl,rfl⟩);go_ret;exact ⟨by rw [HV.out];rfl,hB.alloc hB.size _,by simp;omega⟩
end
section
open Go.Sort
section
variable {α:Type} [Inhabited α]
theorem flatK_toList (enc:α->List Value) (k:Nat) (hk:∀ x,(enc x).length=k) (l:List α):(flatK enc k l.toArray).toList=l.flatMap enc:=by
 apply List.ext_getElem?
 intro t
 by_cases ht:t<l.length*k
 ·have k0:0<k:=by
   rcases Nat.eq_zero_or_pos k with h | h
   ·rw [h] at ht;simp at ht
   ·exact h
  have hi:t / k<l.length:=(Nat.div_lt_iff_lt_mul k0).2 ht;have hj:t % k<k:=Nat.mod_lt _ k0;have e:=Cw enc k hk k0 l (t / k) (t % k) hi hj;rw [show t / k*k+t % k=t by rw [Nat.mul_comm];exact Nat.div_add_mod t k] at e
  rw [e,Array.getElem?_toList];have hs:t<(flatK enc k l.toArray).size:=by rw [size_flatK];simpa using ht
  have h2:=get_flatK enc k l.toArray t (by simpa using ht)
  rw [getElem!_pos _ t hs] at h2;rw [Array.getElem?_eq_getElem hs,h2];have e2:l.toArray[t / k]! = l[t / k]:=by rw [getElem!_pos _ _ (by simpa using hi)];simp
  rw [e2,getElem!_pos _ _ (by rw [hk];exact hj),List.getElem?_eq_getElem (by rw [hk];exact hj)]
 ·rw [List.getElem?_eq_none (by rw [Array.length_toList,size_flatK];simpa using ht),List.getElem?_eq_none (by rw [Ci enc k hk];omega)]
theorem holdsK_of_block {w:World} {g:Nat} {cur:Array Value} {e:TypeId} (enc:α->List Value) (k:Nat) (hk:∀ x,(enc x).length=k) {l:List α} (hb:w.heap[g]?=some (.cells cur e (0,0))) (ht:cur.toList.take (l.length*k)=l.flatMap enc):HoldsK enc k w g 0 l.toArray:=by
 intro j hj;have hj':j<l.length*k:=by simpa using hj
 refine ⟨?_,by simp [World.frozen?,hb]⟩
 have h1:(cur.toList.take (l.length*k))[j]?=(l.flatMap enc)[j]?:=by rw [ht]
 rw [List.getElem?_take_of_lt hj',<- flatK_toList enc k hk,Array.getElem?_toList,Array.getElem?_toList,Array.getElem?_eq_getElem hj] at h1;simp only [World.cell?,hb,Nat.zero_add,Option.isSome_none,Bool.false_eq_true,if_false];rw [h1,getElem!_pos _ j hj];rfl
theorem heap_sortK {w:World} {g n:Nat} {os:Array Obj} {cur:Array Value} {e:TypeId} {fr:Nat×Nat} (enc:α->List Value) (k:Nat) (d:Array α) (hb:w.heap[g]?=some (.cells cur e fr)) :
  (sortWorldK enc k w g 0 n d os).heap[g]?=some (.cells (putCells id 0 (flatK enc k d) cur) e fr):=by
 have hg:g<w.heap.size:=(Array.getElem?_eq_some_iff.1 hb).1;unfold sortWorldK putRowK;rw [heap_grow_old _ _ (by simpa using hg)]
 simp [putRow,mapBlock,Sort.ahead,Array.getElem?_modify,hb,onCells]
theorem grownBy_sortK {w:World} {g n:Nat} {os:Array Obj} (enc:α->List Value) (k:Nat) (d:Array α):w.grownBy (sortWorldK enc k w g 0 n d os) (some g):=by
 unfold sortWorldK putRowK;refine ⟨rfl,rfl,rfl,by simp,fun j hj hne=>?_⟩
 rw [heap_grow_old _ _ (by simpa using hj)]
 have:g≠j:=fun e=>hne (by rw [e])
 simp [putRow,mapBlock,Sort.ahead,Array.getElem?_modify,this]
theorem take_putCellsK (F cur:Array Value) (h:F.size<=cur.size):(putCells id 0 F cur).toList.take F.size=F.toList:=by
 apply List.ext_getElem?
 intro j
 by_cases hj:j<F.size
 ·rw [List.getElem?_take_of_lt hj,Array.getElem?_toList,Array.getElem?_toList,Array.getElem?_eq_getElem hj];simp [putCells,hj,show j<cur.size by omega]
 ·rw [List.getElem?_take_eq_none (by omega),List.getElem?_eq_none (by simpa using hj)]
theorem ownsRow_sortK {w:World} {base g cap n k:Nat} {e:TypeId} {os:Array Obj} (enc:α->List Value) (hk:∀ x,(enc x).length=k) {l l':List α} (hl:l'.length=l.length)
  (h:w.ownsRow base e k (.slice (some ⟨g,0,none⟩) l.length cap) l.length (l.flatMap enc)) :
  (sortWorldK enc k w g 0 n l'.toArray os).ownsRow base e k (.slice (some ⟨g,0,none⟩) l.length cap) l.length (l'.flatMap enc):=by
 rcases h.2 with ⟨h0,_⟩ | ⟨g',cap',cur,hv,hg,hb,hn,hcap,hs,ht⟩
 ·cases h0
 cases hv;refine ⟨by rw [Ci enc k hk,hl],.inr ⟨g,cap,_,rfl,hg,heap_sortK enc k _ hb,hn,hcap,by simp [putCells,hs],?_⟩⟩
 have h3:=take_putCellsK (flatK enc k l'.toArray) cur (by rw [size_flatK,hs];simp [hl];exact Nat.mul_le_mul_right k hn)
 rw [flatK_toList enc k hk,size_flatK] at h3
 simpa [hl] using h3
theorem holdsK_of_own {w:World} {base g cap k:Nat} {e:TypeId} (enc:α->List Value) (hk:∀ x,(enc x).length=k) {l:List α}
  (h:w.ownsRow base e k (.slice (some ⟨g,0,none⟩) l.length cap) l.length (l.flatMap enc)):HoldsK enc k w g 0 l.toArray:=by
 rcases h.2 with ⟨h0,_⟩ | ⟨g',cap',cur,hv,hg,hb,hn,hcap,hs,ht⟩
 ·cases h0
 cases hv;exact holdsK_of_block enc k hk hb ht
theorem permIn_list {l:List α} {d':Array α} (h:PermIn 0 l.toArray.size l.toArray d'):d'.toList.Perm l:=by
 obtain ⟨h1,_,h3⟩:=h;have e1:l.toArray.extract 0 l.toArray.size=l.toArray:=by simp
 have e2:d'.extract 0 l.toArray.size=d':=by rw [<- h1];simp
 rw [e1,e2] at h3
 simpa using h3
theorem sortedIn_list {lt:α->α->Bool} {d':Array α} {n:Nat} (hn:d'.size=n) (h:SortedIn lt 0 n d'):d'.toList.Pairwise fun x y=>lt y x=false:=by
 rw [List.pairwise_iff_getElem];intro i j hi hj hij;simp at hi hj;have:=h i j (Nat.zero_le _) hij (by omega)
 rw [getElem!_pos _ _ (by omega),getElem!_pos _ _ (by omega)] at this
 simpa using this
end
instance noteInhabited:Inhabited Ab:=⟨Bq⟩
def noteEnc (n:Ab):List Value:=n.arr.toList
theorem noteEnc_len (n:Ab):(noteEnc n).length=19:=rfl
theorem noteEnc_cells (l:List Ab):l.flatMap noteEnc=Aw l:=rfl
def Dl (n:Int×Int):List Value:=[.int .i64 n.1,.int .i64 n.2]
theorem nameEnc_len (n:Int×Int):(Dl n).length=2:=rfl
theorem ltName (x y:Int×Int):ltOf Dt x y=true↔Dy x y:=by unfold ltOf;rw [decide_eq_true_eq,cmpName_lt]
theorem ltWhen (x y:Ab):ltOf whenC x y=true↔Dk x y:=by unfold ltOf;rw [decide_eq_true_eq,whenC_lt]
theorem ltName_f (x y:Int×Int):ltOf Dt x y=false↔¬ Dy x y:=by rw [<- ltName];simp
theorem ltWhen_f (x y:Ab):ltOf whenC x y=false↔¬ Dk x y:=by rw [<- ltWhen];simp
theorem swo_name:SWO (ltOf Dt) where
 irrefl x:=by rw [ltName_f];exact nameLt_irrefl x
 trans x y z h1 h2:=by rw [ltName] at *;exact nameLt_trans h1 h2
 ntrans x y z h1 h2:=by rw [ltName_f] at *;unfold Dy at *;omega
theorem swo_when:SWO (ltOf whenC) where
 irrefl x:=by rw [ltWhen_f];unfold Dk Dg Dy;omega
 trans x y z h1 h2:=by rw [ltWhen] at *;exact whenLt_trans h1 h2
 ntrans x y z h1 h2:=by rw [ltWhen_f] at *;unfold Dk Dg Dy at *;omega
end
end Go.Proofs.YteihcodicfoiaaaGreat
