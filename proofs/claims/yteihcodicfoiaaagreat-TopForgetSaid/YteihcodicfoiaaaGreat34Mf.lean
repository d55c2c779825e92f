/-
  What is proved: contracts and plain facts that TopForget stands on (Tab, RegP, RegV).
-/
import Derived.Test.YteihcodicfoiaaaGreatEffectsMf
import Derived.Laws.EntriesVeiled
import Derived.Test.YteihcodicfoiaaaGreat32Mf
import Derived.Test.YteihcodicfoiaaaGreat12Mf
namespace Go.Proofs.YteihcodicfoiaaaGreat
set_option maxRecDepth 100000
set_option maxHeartbeats 4000000
open Go Go.RowKit
section
open Go.ChangeMaps (setBlock)
theorem und194:Tryz.prog.underlying 194=some (.map 3 199):=by kernel_rfl
theorem und3:Tryz.prog.underlying 3=some (.int .i64):=by kernel_rfl
def TabAt (w:World) (g:Nat) (f:List (Int×Value)):Prop:=∃ es c,w.heap[g]?=some (.map es c)/\es.toList.map (fun e=>(e.key,e.val))=f.map (fun x=>(Value.int .i64 x.1,x.2))
def ixI (k:Int):List (Int×Value)->Nat->Option (Nat×Value)
 | [],_=>none
 | x :: f,i=>if x.1=k then some (i,x.2) else ixI k f (i+1)
theorem findNow_ints (k:Int):∀ (l:List MapEntry) (f:List (Int×Value)) (i:Nat),l.map (fun e=>(e.key,e.val))=f.map (fun x=>(Value.int .i64 x.1,x.2))->Instr.findNow (.int .i64) (.int .i64 k) l i=some (ixI k f i)
 | [],[],i,_=>by simp [Instr.findNow,ixI]
 | [],x :: f,i,h=>by cases h
 | e :: l,[],i,h=>by cases h
 | e :: l,x :: f,i,h=>by
  simp only [List.map_cons] at h;injection h with h1 h2
  injection h1 with h1 h3
  have ih:=findNow_ints k l f (i+1) h2
  by_cases hx:x.1=k
  ·simp [Instr.findNow,Instr.sameNow,h1,h3,hx,ixI]
  ·have hk:(k == x.1)=false:=by simpa using (Ne.symm hx)
   simp [Instr.findNow,Instr.sameNow,h1,h3,hx,ixI,ih,hk]
theorem run_findKeyI (k:Int) (w:World) (l:List MapEntry) (f:List (Int×Value)) (hl:l.map (fun e=>(e.key,e.val))=f.map (fun x=>(Value.int .i64 x.1,x.2))) :
  (Instr.findKey 3 (.int .i64 k) l).run Tryz.prog w=.ok (ixI k f 0) w:=by
 have h:=findNow_ints k l f 0 hl;simp only [Instr.findKey,Sem.run_bind,run_underlying und3,Result.andThen,h];rfl
theorem chk3 (e:Bool) (k:Int) (w:World):(Instr.checkKey e 10000 3 (.int .i64 k)).run Tryz.prog w=.ok () w:=by kernel_rfl
theorem tab_look {w:World} {g:Nat} {f:List (Int×Value)} (h:TabAt w g f) (k:Int) {v:Value} (hv:∃ i,ixI k f 0=some (i,v)) :
  (Instr.lookup 194 (.map (some g)) (.int .i64 k) false).run Tryz.prog w=.ok v w:=by
 obtain ⟨es,c,hg,hi⟩:=h;obtain ⟨i,hx⟩:=hv;have hr:=run_findKeyI k w es.toList f hi;rw [hx] at hr;simp only [Instr.lookup,Sem.run_bind,run_underlying und194,Result.andThen,getObj,Sem.run,hg,chk3];simp [Sem.run_pure,Result.andThen];rw [hr];simp [Sem.run_pure,Result.andThen]
theorem tab_ins {w:World} {g:Nat} {f:List (Int×Value)} (h:TabAt w g f) (k:Int) (v:Value) (hn:ixI k f 0=none) :
  ∃ w',(Instr.mapUpdate 194 (.map (some g)) (.int .i64 k) v).run Tryz.prog w=.ok () w'/\TabAt w' g (f ++ [(k,v)])/\(∀ q,q≠g->w'.heap[q]?=w.heap[q]?)/\w'.heap.size=w.heap.size/\w'.os=w.os/\w'.tape=w.tape/\w'.output=w.output:=by
 obtain ⟨es,c,hg,hi⟩:=h;have hr:=run_findKeyI k w es.toList f hi;rw [hn] at hr;refine ⟨setBlock w g (.map (es.push { key:=.int .i64 k,val:=v,born:=c }) (c+1)),?_,⟨es.push { key:=.int .i64 k,val:=v,born:=c },c+1,?_,?_⟩,fun q hq=>Fj hq _,Gs _ _ _,rfl,rfl,rfl⟩
 ·simp only [Instr.mapUpdate,Sem.run_bind,run_underlying und194,Result.andThen,getObj,Sem.run,hg,chk3];rw [hr];simp [setObj,Sem.run,hg,setBlock]
 ·have:=(Array.getElem?_eq_some_iff.1 hg).1;simp [setBlock,this]
 ·simp [hi]
def tabL (pa:Nat):List (Int×Value):=[(1,.func (.func 131) #[] #[]),(2,.func (.func 132) #[] #[.pointer (some ⟨pa,0,none⟩)]),(3,.func (.func 130) #[] #[]),(4,.func (.func 130) #[] #[])]
theorem TabAt.nil (w:World):TabAt (w.alloc (.map #[] 0)) w.heap.size []:=⟨#[],0,heap_alloc_new w _,rfl⟩
theorem TabAt.below {w w':World} {g:Nat} {f:List (Int×Value)} (h:TabAt w g f) (hb:Below w.heap.size w w'):TabAt w' g f:=by
 obtain ⟨es,c,hg,hi⟩:=h;exact ⟨es,c,(hb.block g (Array.getElem?_eq_some_iff.1 hg).1).trans hg,hi⟩
def EffectsP (w:World) (e:Ending) (w':World):Prop :=
 Below w.heap.size w w'/\TabAt w' (w.heap.size+1) (tabL w.heap.size)/\Bk w' w.heap.size 199 #[.func (.func 130) #[] #[]]/\e=.returned (.map (some (w.heap.size+1)))
attribute [local go_sem] makeMap_run
theorem effects_any (w:World):Calls Tryz.prog 87 #[] w (EffectsP w):=by
 have hB0:Below w.heap.size w ((w.alloc (.cells #[.func (.func 130) #[] #[]] 199)).alloc (.map #[] 0)):=Ba.alloc (by simp) _
 have T0:TabAt ((w.alloc (.cells #[.func (.func 130) #[] #[]] 199)).alloc (.map #[] 0)) (w.heap.size+1) []:=by
  have:=TabAt.nil (w.alloc (.cells #[.func (.func 130) #[] #[]] 199))
  rwa [World.size_alloc] at this
 have P0:Bk ((w.alloc (.cells #[.func (.func 130) #[] #[]] 199)).alloc (.map #[] 0)) w.heap.size 199 #[.func (.func 130) #[] #[]]:=(Aa rfl).alloc _;obtain ⟨w1,r1,T1,far1,sz1,os1,tp1,ou1⟩:=tab_ins T0 1 (.func (.func 131) #[] #[]) rfl;obtain ⟨w2,r2,T2,far2,sz2,os2,tp2,ou2⟩:=tab_ins T1 2 (.func (.func 132) #[] #[.pointer (some ⟨w.heap.size,0,none⟩)]) rfl;obtain ⟨w3,r3,T3,far3,sz3,os3,tp3,ou3⟩:=tab_ins T2 3 (.func (.func 130) #[] #[]) rfl;obtain ⟨w4,r4,T4,far4,sz4,os4,tp4,ou4⟩:=tab_ins T3 4 (.func (.func 130) #[] #[]) rfl;have P2:Bk w2 w.heap.size 199 #[.func (.func 130) #[] #[]]:=(far2 _ (by omega)).trans ((far1 _ (by omega)).trans P0)
 have P3:Bk w3 w.heap.size 199 #[.func (.func 130) #[] #[]]:=(far3 _ (by omega)).trans P2
 have P4:Bk w4 w.heap.size 199 #[.func (.func 130) #[] #[]]:=(far4 _ (by omega)).trans P3
 have hB:Below w.heap.size w w4:=by
  have e1:=hB0.size;refine ⟨?_,?_,?_,by omega,fun k hk=>?_⟩
  ·rw [os4,os3,os2,os1];exact hB0.os
  ·rw [tp4,tp3,tp2,tp1];exact hB0.tape
  ·rw [ou4,ou3,ou2,ou1];exact hB0.output
  ·rw [far4 _ (by omega),far3 _ (by omega),far2 _ (by omega),far1 _ (by omega)]
   exact hB0.block k hk
 have p2:=P2.cell 0;have p3:=P3.cell 0;simp at p2 p3;have HE:=Hd (show EffectsP w (.returned (.map (some (w.heap.size+1)))) w4 from ⟨hB,T4,P4,rfl⟩)
 clear T0 P0 T1 far1 sz1 os1 tp1 ou1 T2 far2 sz2 os2 tp2 ou2 T3 far3 sz3 os3 tp3 ou3 T4 far4 sz4 os4 tp4 ou4 P2 P3 P4 hB hB0;go_enter Tryz.func87,Tryz.ntmps87;go_wp2_with fail;go_ret;exact HE.out
end
section
def NoteOk (day:Int) (n:Ab):Prop:=n.day<=day/\(n.kind=5->1<=n.fix/\n.fix<=4)/\n.strokes.length<=200
theorem isDone_iff (n:Ab):Gw n=true↔1<=n.kind/\n.kind<=4:=by unfold Gw inB;simp
theorem evs_ok {l:List Ab} {day:Int} (h:∀ n∈l,NoteOk day n):∀ m∈Jv l,m.day<=day/\1<=m.kind/\m.kind<=4/\m.strokes.length<=200:=by
 intro m hm;obtain ⟨n,hn,he⟩:=List.mem_filterMap.1 hm;have hn':=h n hn;unfold eff at he
 split at he
 ·rename_i hd;rw [isDone_iff] at hd;cases hb:best (l.filter (cand n)) with
  | none =>
   rw [hb] at he;simp only [effOf] at he;injection he with he
   subst he;exact ⟨hn'.1,hd.1,hd.2,hn'.2.2⟩
  | some j =>
   rw [hb] at he;simp only [effOf] at he
   split at he
   ·cases he
   ·rename_i h6;injection he with he
    have hj:=List.mem_filter.1 (best_mem hb);have hjo:=h j hj.1;have h5:j.kind=5:=by
     have:=hj.2;unfold cand Jp at this;simp only [Bool.and_eq_true,Bool.or_eq_true,beq_iff_eq] at this;rcases this.2.2 with g | g
     ·exact absurd g h6
     ·exact g.1
    have hf:=hjo.2.1 h5;subst he;unfold Eq
    split
    ·exact ⟨hjo.1,hf.1,hf.2,hjo.2.2⟩
    ·exact ⟨hjo.1,hf.1,hf.2,hjo.2.2⟩
 ·cases he
theorem evs_ok_plain {l L:List Ab} {day:Int} (h:∀ n∈l,NoteOk day n) (hp:(L.map Ab.plain).Perm (Jv (l.map Ab.plain))):∀ m∈L,m.day<=day/\1<=m.kind/\m.kind<=4/\m.strokes.length<=200:=by
 intro m hm;have h1:∀ n∈l.map Ab.plain,NoteOk day n:=fun n hn=>by
  obtain ⟨x,hx,rfl⟩:=List.mem_map.1 hn;exact h x hx
 have h2:=evs_ok h1 m.plain (hp.mem_iff.1 (List.mem_map.2 ⟨m,hm,rfl⟩));exact h2
def Dc (s:List EvD×List EvD) (x:EvD):List EvD×List EvD :=
 if x.note.kind=1 then (if s.1.length=8 then s else (s.1 ++ [x],s.2))
 else if x.note.kind=2 then (if Hg s.1 x.note.rh x.note.rn=0 then (s.1,s.2 ++ [x]) else s)
 else (s.1,s.2 ++ [x])
def evOk (s:List EvD×List EvD) (x:EvD):Bool :=
 if x.note.kind=1 then !decide (s.1.length=8) else if x.note.kind=2 then Hg s.1 x.note.rh x.note.rn == 0 else true
def Bi (L:List EvD):List EvD×List EvD:=L.foldl Dc ([],[])
theorem evReg_snoc (L:List EvD) (x:EvD):Bi (L ++ [x])=Dc (Bi L) x:=by simp [Bi,List.foldl_append]
theorem firstIx_lt (bad:Nat->Bool) (n:Nat):¬ Cs bad n<0↔∃ k,k<n/\bad k=true:=by
 have h:=Et bad n;constructor
 ·intro g;have g1:Fd bad n=true:=by rw [<- h];simpa using g
  unfold Fd at g1;rw [List.any_eq_true] at g1;obtain ⟨k,hk,hb⟩:=g1;exact ⟨k,List.mem_range.1 hk,hb⟩
 ·rintro ⟨k,hk,hb⟩;have g1:Fd bad n=true:=by unfold Fd;rw [List.any_eq_true];exact ⟨k,List.mem_range.2 hk,hb⟩
  rw [<- h] at g1
  simpa using g1
theorem heapE_zero (H:List EvD) (a b:Int):Hg H a b=0↔(a,b)∈H.map fun e=>(e.eh,e.en):=by
 unfold Hg heapF;have h:=firstIx_lt (fun k=>(H.getD k ev0).eh == a && (H.getD k ev0).en == b) H.length
 constructor
 ·intro g
  split at g
  ·omega
  ·rename_i hn;obtain ⟨k,hk,hb⟩:=h.1 hn;simp only [Bool.and_eq_true,beq_iff_eq] at hb;exact List.mem_map.2 ⟨H.getD k ev0,Cg ev0 hk,by rw [hb.1,hb.2]⟩
 ·intro g;obtain ⟨x,hx,he⟩:=List.mem_map.1 g;injection he with h1 h2
  obtain ⟨k,hk,rfl⟩:=List.getElem_of_mem hx;rw [if_neg];refine h.2 ⟨k,hk,?_⟩;rw [Aj _ _ hk];simp [h1,h2]
theorem evStep_note (s:List Ab×List Ab) (x:Ab):Dc (s.1.map Ay,s.2.map Ay) (Ay x)=((Co s x).1.map Ay,(Co s x).2.map Ay):=by
 have hm:∀ a b,Hg (s.1.map Ay) a b=0↔(a,b)∈s.1.map Ab.name:=fun a b=>by
  rw [heapE_zero,List.map_map];rfl
 unfold Dc Co
 by_cases h1:x.kind=1
 ·have h1':(Ay x).note.kind=1:=h1;rw [if_pos h1,if_pos h1']
  by_cases h8:s.1.length=8
  ·rw [if_pos h8,if_pos (by simpa using h8)]
  ·rw [if_neg h8,if_neg (by simpa using h8)]
   simp
 ·have h1':¬ (Ay x).note.kind=1:=h1;rw [if_neg h1,if_neg h1']
  by_cases h2:x.kind=2
  ·have h2':(Ay x).note.kind=2:=h2;rw [if_pos h2,if_pos h2']
   by_cases hr:x.ref∈s.1.map Ab.name
   ·have:=(hm x.rh x.rn).2 hr;rw [if_pos hr,if_pos (show Hg (s.1.map Ay) (Ay x).note.rh (Ay x).note.rn=0 from this)]
    simp
   ·have:¬ Hg (s.1.map Ay) (Ay x).note.rh (Ay x).note.rn=0:=fun g=>hr ((hm x.rh x.rn).1 g)
    rw [if_neg hr,if_neg this]
  ·have h2':¬ (Ay x).note.kind=2:=h2;rw [if_neg h2,if_neg h2'];simp
theorem evFold_note:∀ (L:List Ab) (s:List Ab×List Ab),(L.map Ay).foldl Dc (s.1.map Ay,s.2.map Ay)=((L.foldl Co s).1.map Ay,(L.foldl Co s).2.map Ay)
 | [],_=>rfl
 | x :: L,s=>by rw [List.map_cons,List.foldl_cons,evStep_note,evFold_note L,List.foldl_cons]
theorem evReg_note (L:List Ab):Bi (L.map Ay)=((regOf L).1.map Ay,(regOf L).2.map Ay):=evFold_note L ([],[])
theorem evStep_len (s:List EvD×List EvD) (x:EvD):(s.1.length<=8->(Dc s x).1.length<=8)/\(Dc s x).2.length<=s.2.length+1:=by
 unfold Dc
 split
 ·split
  ·exact ⟨id,by omega⟩
  ·exact ⟨fun h=>by simp;omega,by simp⟩
 ·split
  ·split
   ·exact ⟨id,by simp⟩
   ·exact ⟨id,by omega⟩
  ·exact ⟨id,by simp⟩
theorem evReg_len:∀ (L:List EvD),(Bi L).1.length<=8/\(Bi L).2.length<=L.length:=fun L=>by
 have:∀ (L:List EvD) (s:List EvD×List EvD),s.1.length<=8->(L.foldl Dc s).1.length<=8/\(L.foldl Dc s).2.length<=s.2.length+L.length:=by
  intro L
  induction L with
  | nil=>exact fun s h=>⟨h,by simp⟩
  | cons x L ih =>
   intro s h;have h1:=evStep_len s x;have h2:=ih (Dc s x) (h1.1 h);rw [List.foldl_cons];exact ⟨h2.1,by have:=h1.2;have:=h2.2;simp;omega⟩
 unfold Bi
 simpa using this L ([],[]) (by simp)
end
section
theorem run_append_nothing {P:Program} {w:World} {t ty e:TypeId} {i:TypeInfo} (ht:P.underlying t=some (.slice e)) (hi:P.info? e=some i) {base size n c:Nat} {A:Option Addr} {xs:List Value} (h:w.ownsRow base e size (.slice A n c) n xs) :
  (Builtin.append_ #[t,t] ty #[.slice A n c,.slice none 0 0]).run P w=.ok (.slice A n c) w:=by
 rcases h.2 with ⟨hv,h0⟩ | ⟨g,cap,cur,hv,hbg,hg,hnc,hcm,hcs,htake⟩
 ·injection hv with h1 h2 h3
  subst h1;subst h2;subst h3;simp [Builtin.append_,run_underlying ht,sizeOf,typeInfo,hi,Builtin.lenOf,Builtin.firstCells,loadCells,loadCellsFrom]
 ·injection hv with h1 h2 h3
  subst h1;subst h3;simp [Builtin.append_,run_underlying ht,sizeOf,typeInfo,hi,Builtin.lenOf,Builtin.firstCells,loadCells,loadCellsFrom,hnc];rfl
theorem step_append_nothing {ops:Array Oper} {o:Oper} {a:Act} {w:World} {K:Act->World->Prop} {Q:Exit->Act->World->Prop} {E:Prop} (hgd:o.guard=none) (s x:Operand) (t e:TypeId) (i:TypeInfo)
  (ho:o.op=.call { callee:=.builtin .append,args:=#[s,x],argTypes:=#[t,t] }) (ht:Tryz.prog.underlying t=some (.slice e)) (hi:Tryz.prog.info? e=some i) {base size n c:Nat} {A:Option Addr} {xs:List Value}
  (hs:a.eval s=.slice A n c) (hx:a.eval x=.slice none 0 0) (h:w.ownsRow base e size (.slice A n c) n xs) (hK:K (a.put o.dst (.slice A n c)) w) :
  if Region.wanted o (yielded ops a.tmps)=true then Oper.wp Tryz.prog o a w K Q else E:=by
 have hw:Region.wanted o (yielded ops a.tmps)=true:=by simp [Region.wanted,hgd]
 rw [if_pos hw];have hr:=run_append_nothing (ty:=o.type) ht hi h;unfold Oper.wp execOp;simp only [ho,resolve,invoke,builtin,Sem.run_bind,Sem.run_pure,Result.andThen_ok,List.map_toArray,List.map_cons,List.map_nil,hs,hx,hr];exact hK
theorem Ez.grownO {B p:Nat} {H E:List EvD} {C:List (Int×Int)} {z:RegL} {V V':World} (h:Ez B p H E C z V) {row:Option Nat} (hg:V.grownBy V' row) (hr:∀ r,row=some r->∃ o:Obj,V.heap[r]?=some o/\o.isCells=false):Ez B p H E C z V':=by
 have hne:∀ {q:Nat} {t:TypeId} {cs:Array Value},Bk V q t cs->some q≠row:=fun hq e=>by
  obtain ⟨o,ho,hc⟩:=hr _ e.symm;have:=hq.symm.trans ho;simp at this;rw [<- this] at hc;simp [Obj.isCells] at hc
 refine ⟨⟨h.lt.1,Nat.le_trans h.lt.2 hg.size⟩,(hg.block p h.rg.lt (hne h.rg)).trans h.rg,Bt h.hs hg fun k hk e=>?_,Bt h.es hg fun k hk e=>?_,Bt h.cs hg fun k hk e=>?_,h.ne,fun e he=>Gn (h.st e he) (fun q t cs hq _=>hg.block q hq.lt (hne hq)) hg.size⟩
 ·obtain ⟨cs,hcs⟩:=Ck h.hs hk;exact hne hcs e.symm
 ·obtain ⟨cs,hcs⟩:=Ck h.es hk;exact hne hcs e.symm
 ·obtain ⟨cs,hcs⟩:=Ck h.cs hk;exact hne hcs e.symm
section
variable {B p:Nat} {s:List EvD×List EvD} {C:List (Int×Int)} {z:RegL} {w:World}
theorem eff_1 (x:EvD) (h0:Ez B p s.1 s.2 C z w) (he:x.note.At w/\x.note.StrT w) (hk:x.note.kind=1) (h8:s.1.length<=8) :
  Calls Tryz.prog 131 #[.pointer (some ⟨p,0,none⟩),.agg x.cells.toArray] w (EffP B p (Dc s x).1 (Dc s x).2 C (evOk s x) w):=by
 unfold Dc evOk;rw [if_pos hk,if_pos hk]
 by_cases h:s.1.length=8
 ·rw [if_pos h];have:=heap_full x B p s.1 s.2 C z w h0 h
  simpa [h] using this
 ·rw [if_neg h];have:=heap_push x B p s.1 s.2 C z w h0 he (by omega)
  simpa [h] using this
theorem eff_2 (x:EvD) (pa:Nat) (h0:Ez B p s.1 s.2 C z w) (he:x.note.At w/\x.note.StrT w) (hk:x.note.kind=2) (h8:s.1.length<=8) (hE:s.2.length<=399) (hpa:Bk w pa 199 #[.func (.func 130) #[] #[]]) :
  Calls Tryz.prog 132 #[.pointer (some ⟨p,0,none⟩),.agg x.cells.toArray,.pointer (some ⟨pa,0,none⟩)] w (EffP B p (Dc s x).1 (Dc s x).2 C (evOk s x) w):=by
 have:=pass_any x B p pa s.1 s.2 C z w h0 he hE (by omega) hpa
 unfold Dc evOk;have h1:¬ x.note.kind=1:=by omega
 rw [if_neg h1,if_neg h1,if_pos hk,if_pos hk]
 by_cases h:Hg s.1 x.note.rh x.note.rn=0
 ·rw [if_pos h] at this ⊢;exact this
 ·rw [if_neg h] at this ⊢;exact this
theorem eff_3 (x:EvD) (h0:Ez B p s.1 s.2 C z w) (he:x.note.At w/\x.note.StrT w) (h1:x.note.kind≠1) (h2:x.note.kind≠2) (hE:s.2.length<=399) :
  Calls Tryz.prog 130 #[.pointer (some ⟨p,0,none⟩),.agg x.cells.toArray] w (EffP B p (Dc s x).1 (Dc s x).2 C true w):=by
 have:=add_any x B p s.1 s.2 C z w h0 he hE;unfold Dc;rw [if_neg h1,if_neg h2];exact this
end
theorem TabAt.kept {n₀ p:Nat} {A B:World} {g:Nat} {f:List (Int×Value)} (h:Cm n₀ p A B) (hg:TabAt A g f) (h1:g<n₀) (h2:g≠p):TabAt B g f:=by
 obtain ⟨es,c,he,hi⟩:=hg;exact ⟨es,c,(h.block g h1 h2).trans he,hi⟩
structure Fc (n:Nat) (w:World) (A:Option Addr) (H:List EvD):Prop where
 row:Gg w A H
 lo:∀ a,A=some a->n<=a.block
 st:∀ e∈H,e.note.StrT w
theorem Fc.below {n:Nat} {w w':World} {A:Option Addr} {H:List EvD} (h:Fc n w A H) (hb:Below w.heap.size w w'):Fc n w' A H:=⟨h.row.below hb,h.lo,fun e he=>StrT.below (h.st e he) hb⟩
theorem Fc.mono {n m:Nat} {w:World} {A:Option Addr} {H:List EvD} (h:Fc n w A H) (hm:m<=n):Fc m w A H:=⟨h.row,fun a ha=>Nat.le_trans hm (h.lo a ha),h.st⟩
theorem Fc.far {n:Nat} {w:World} {A:Option Addr} {H:List EvD} (h:Fc n w A H) {q:Nat} {t:TypeId} {cs:Array Value} (hq:q<n) (hb:Bk w q t cs) (ht:t≠3) (c:Nat) (u:Value):Fc n (w.setCell ⟨q,c,none⟩ u) A H:=by
 have hs:∀ e∈H,e.note.At (w.setCell ⟨q,c,none⟩ u)/\e.note.StrT (w.setCell ⟨q,c,none⟩ u):=fun e he=>Gn ⟨h.row.str e he,h.st e he⟩ (fun k t' cs' hk ht'=>by
  subst ht';refine Below.heap_setCell _ _ _ _ ?_;rintro rfl;have:=hk.symm.trans hb;simp at this;exact ht this.2.symm) (by simp)
 exact ⟨⟨h.row.row.farA (fun a ha=>by have:=h.lo a ha;simp;omega) _,fun e he=>(hs e he).1⟩,h.lo,fun e he=>(hs e he).2⟩
def RegisterP (l:List Ab) (w:World) (e:Ending) (w':World):Prop :=
 ∃ (L:List Ab) (A1:Option Addr) (c1:Nat) (A2:Option Addr) (c2:Nat) (A3:Option Addr) (n3 c3:Nat),(L.map Ab.plain).Perm (Jv (l.map Ab.plain))/\L.Pairwise Dk/\(L.length<=l.length/\(Bi (L.map Ay)).2.length<=c2)/\(∀ m∈L,1<=m.kind/\m.kind<=4/\m.strokes.length<=200)/\Below w.heap.size w w' /\
  Fc w.heap.size w' A1 (Bi (L.map Ay)).1/\Fc w.heap.size w' A2 (Bi (L.map Ay)).2/\e=.returned (Dv A1 (Bi (L.map Ay)).1.length c1 A2 (Bi (L.map Ay)).2.length c2 A3 n3 c3)
def Jw (L:List Ab) (pre:List (Fin L.length)):List EvD×List EvD:=Bi (pre.map fun m=>Ay (L[m.1]'m.2))
theorem Kj (L:List Ab) (pre:List (Fin L.length)) (x:Fin L.length):Jw L (pre ++ [x])=Dc (Jw L pre) (Ay (L[x.1]'x.2)):=by unfold Jw;rw [List.map_append,List.map_cons,List.map_nil,evReg_snoc]
theorem evFin_len (L:List Ab) (pre:List (Fin L.length)):(Jw L pre).1.length<=8/\(Jw L pre).2.length<=pre.length:=by
 have:=evReg_len (pre.map fun m=>Ay (L[m.1]'m.2))
 simpa [Jw] using this
theorem evFin_all (L:List Ab):Jw L (List.finRange L.length)=Bi (L.map Ay):=by
 unfold Jw
 congr 1
 refine List.ext_getElem (by simp) fun i h1 h2=>?_
 simp
theorem Ez.permC {B p:Nat} {H E:List EvD} {C C':List (Int×Int)} {z:RegL} {V V':World} (h:Ez B p H E C z V) (hl:C'.length=C.length) (hown:V'.ownsRow B 66 2 (.slice z.A3 C.length z.c3) C.length (C'.flatMap Dl)) (hg:V.grownBy V' (Value.slice z.A3 C.length z.c3).ownBlock):Ez B p H E C' z V':=by
 refine ⟨⟨h.lt.1,Nat.le_trans h.lt.2 hg.size⟩,?_,?_,?_,by rw [hl];exact hown,h.ne,?_⟩
 ·have:=rg_push h h.cs Le hg;unfold Ep at *;rw [hl];exact this
 ·refine Bt h.hs hg fun k hk e1=>?_
  obtain ⟨cs,hcs⟩:=Ck h.hs hk;exact Bl h.cs hcs (by decide) e1.symm
 ·refine Bt h.es hg fun k hk e1=>?_
  obtain ⟨cs,hcs⟩:=Ck h.es hk;exact Bl h.cs hcs (by decide) e1.symm
 ·exact fun x hx=>Gn (h.st x hx) (fun q t cs hq ht=>by subst ht;exact hg.block q hq.lt (Bl h.cs hq (by decide))) hg.size
theorem Ez.far {B p:Nat} {H E:List EvD} {C:List (Int×Int)} {z:RegL} {V:World} (h:Ez B p H E C z V) {q:Nat} (hq:q<B) (hne:q≠p) {t:TypeId} {cs:Array Value} (hb:Bk V q t cs) (ht:t≠3) (c:Nat) (u:Value):Ez B p H E C z (V.setCell ⟨q,c,none⟩ u) :=
 ⟨⟨h.lt.1,by simpa using h.lt.2⟩,h.rg.far (by simpa using Ne.symm hne) u,ownsRow_setCell_below h.hs (by simpa using hq) _,ownsRow_setCell_below h.es (by simpa using hq) _,ownsRow_setCell_below h.cs (by simpa using hq) _,h.ne,
  fun x hx=>Gn (h.st x hx) (fun k t' cs' hk ht'=>by
   subst ht';refine Below.heap_setCell _ _ _ _ ?_;rintro rfl;have:=hk.symm.trans hb;simp at this;exact ht this.2.symm) (by simp)⟩
theorem Cm.below {n₀ p B:Nat} {w A V:World} (hA:Below B w A) (h:Cm n₀ p A V) (hB:B<=n₀) (hp:B<=p):Below B w V :=
 ⟨h.os.trans hA.os,h.tape.trans hA.tape,h.output.trans hA.output,Nat.le_trans hA.size h.size,fun k hk=>(h.block k (by omega) (by omega)).trans (hA.block k hk)⟩
end
end Go.Proofs.YteihcodicfoiaaaGreat
