/-
  What is proved: contracts and plain facts that TopForget stands on (EvW, BuildB).
-/
import Derived.Test.YteihcodicfoiaaaGreatSortLMf
import Derived.Test.YteihcodicfoiaaaGreatSitMf
import Derived.Test.YteihcodicfoiaaaGreat19Mf
import Derived.Test.YteihcodicfoiaaaGreat2Mf
namespace Go.Proofs.YteihcodicfoiaaaGreat
open Go Go.RowKit
section
structure EvI (w:World) (g:Nat) (F D:Br) (L:List Ab) (A:Option Addr) (c:Nat) (V:World):Prop where
 rg:Dr V (w.heap.size+1) g F D
 bl:Below w.heap.size w V
 bx:Bk V w.heap.size 42 #[.slice A L.length c]
 ow:V.ownsRow (w.heap.size+2) 68 19 (.slice A L.length c) L.length (Aw L)
 st:∀ n∈L,n.At V/\n.StrT V
section
variable {w:World} {g:Nat} {F D D':Br} {L:List Ab} {A:Option Addr} {c:Nat} {V V':World}
theorem StrT.lt {n:Ab} (h:n.StrT V):∀ a,n.sA=some a->a.block<V.heap.size:=fun a ha=>by
 obtain ⟨cs,hc⟩:=h a ha;exact hc.lt
theorem StrT.below {n:Ab} (h:n.StrT V) (hb:Below V.heap.size V V'):n.StrT V':=h.of_heap fun a ha=>hb.block _ (StrT.lt h a ha)
theorem EvI.below (h:EvI w g F D L A c V) (hb:Below V.heap.size V V'):EvI w g F D L A c V' :=
 ⟨h.rg.below hb,h.bl.trans (hb.mono h.bl.size),h.bx.keep hb,Ca h.ow hb,fun n hn=>⟨(h.st n hn).1.below hb,StrT.below (h.st n hn).2 hb⟩⟩
theorem EvI.drew (h:EvI w g F D L A c V):EvI w g F D L A c V.drew:=h.below (Below.refl _ V).drew
theorem range_notcells {r bm:Nat} {f:Br} (h:Dr V r bm f D) {t:TypeId} {cs:Array Value} (hb:Bk V r t cs):False:=by
 obtain ⟨es,clock,since,seen,c0,hr,_⟩:=h;have:=hr.symm.trans hb;simp at this
theorem Gn {n:Ab} (h:n.At V/\n.StrT V) (he:∀ q t cs,Bk V q t cs->t=3->V'.heap[q]?=V.heap[q]?) (hs:V.heap.size<=V'.heap.size):n.At V'/\n.StrT V':=by
 have he':∀ a,n.sA=some a->V'.heap[a.block]?=V.heap[a.block]?:=fun a ha=>by
  obtain ⟨cs,hc⟩:=h.2 a ha;exact he _ _ _ hc rfl
 exact ⟨Ad.of_heap h.1 he' hs,h.2.of_heap he'⟩
theorem EvI.step (h:EvI w g F D L A c V) (hr:Dr V' (w.heap.size+1) g F D') (hb:Below (w.heap.size+1) V V') (hf:∀ q,q≠w.heap.size+1->V'.heap[q]?=V.heap[q]?):EvI w g F D' L A c V' :=
 ⟨hr,h.bl.trans (hb.mono (by omega)),(hf _ (by omega)).trans h.bx,h.ow.kept (row:=some (w.heap.size+1)) ⟨hb.os,hb.tape,hb.output,hb.size,fun i _ hne=>hf i (fun e=>hne (by rw [e]))⟩ (by
  cases hv:(Value.slice A L.length c).ownBlock with
  | none=>exact .inl rfl
  | some b=>exact .inr (fun e=>by injection e with e;have:=(h.ow.lt b hv).1;omega)),
  fun n hn=>Gn (h.st n hn) (fun q t cs hq ht=>hf q (fun e=>by subst e;exact range_notcells h.rg hq)) hb.size⟩
theorem Bl {base:Nat} {e t:TypeId} {size k:Nat} {v:Value} {xs:List Value} (h:V.ownsRow base e size v k xs) {q:Nat} {cs:Array Value} (hq:Bk V q t cs) (hne:t≠e):some q≠v.ownBlock:=fun e1=>by
 obtain ⟨cs',hcs⟩:=Ck h e1.symm;have:=hcs.symm.trans hq;simp at this;exact hne this.2.symm
theorem noteCells_snoc (L:List Ab) (x:Ab):Aw (L ++ [x])=Aw L ++ x.arr.toList:=by simp [Aw]
theorem EvI.push (h:EvI w g F D L A c V) {x:Ab} (hx:x.At V/\x.StrT V) {A':Option Addr} {c':Nat} (hown:V'.ownsRow (w.heap.size+2) 68 19 (.slice A' (L.length+1) c') (L.length+1) (Aw L ++ x.arr.toList)) (hg:V.grownBy V' (Value.slice A L.length c).ownBlock) :
  EvI w g F D (L ++ [x]) A' c' (V'.setCell ⟨w.heap.size,0,none⟩ (.slice A' (L.length+1) c')):=by
 have hb:∀ b,b<w.heap.size+2->b<V.heap.size->V'.heap[b]?=V.heap[b]?:=fun b hb hlt=>hg.block b hlt (own_ne h.ow hb)
 have hr:=h.rg.lt;have hgne:g≠w.heap.size:=by
  rintro rfl;obtain ⟨es,cc,hm,_⟩:=h.rg.map;have:=hm.symm.trans h.bx;simp at this
 have hgb:V'.heap[g]?=V.heap[g]?:=by
  refine hg.block _ hr.2 fun e1=>?_
  obtain ⟨cs',hcs⟩:=Ck h.ow e1.symm;obtain ⟨es,cc,hm,_⟩:=h.rg.map;have:=hm.symm.trans hcs;simp at this
 have hlen:(L ++ [x]).length=L.length+1:=by simp
 refine ⟨h.rg.keep ?_ ?_,?_,?_,?_,?_⟩
 ·rw [Below.heap_setCell _ _ _ _ (by simp)]
  exact hb _ (by omega) hr.1
 ·rw [Below.heap_setCell _ _ _ _ hgne];exact hgb
 ·refine Below.setCell ?_ (by simp) _
  exact ⟨hg.os.trans h.bl.os,hg.tape.trans h.bl.tape,hg.output.trans h.bl.output,Nat.le_trans h.bl.size hg.size,fun i hi=>(hb i (by omega) (by have:=h.bl.size;omega)).trans (h.bl.block i hi)⟩
 ·have:Bk V' w.heap.size 42 #[.slice A L.length c]:=(hb _ (by omega) h.bx.lt).trans h.bx
  rw [hlen];exact this.put 0 (.slice A' (L.length+1) c')
 ·rw [noteCells_snoc,hlen];exact ownsRow_setCell_below hown (by simp) _
 ·intro n hn;have hn':n.At V/\n.StrT V:=by
   rcases List.mem_append.1 hn with hn | hn
   ·exact h.st n hn
   ·rw [List.mem_singleton.1 hn];exact hx
  refine Gn hn' (fun q t cs hq ht=>?_) (by simpa using hg.size)
  subst ht;rw [Below.heap_setCell _ _ _ _ (by rintro rfl;have:=hq.symm.trans h.bx;simp at this)]
  exact hg.block q hq.lt (Bl h.ow hq (by decide))
end
theorem setRow_grown (w:World) (q:Nat) (cs:Array Value):w.grownBy (w.setRow q cs) (some q) :=
 ⟨rfl,rfl,rfl,by rw [Fi];exact Nat.le_refl _,fun k _ hne=>Cy (fun e=>hne (by rw [e])) cs⟩
theorem at_setRow {n:Ab} {q:Nat} {V:World} (h:n.At V) (hq:∀ a,n.sA=some a->a.block≠q) (cs':Array Value):n.At (V.setRow q cs'):=Ad.of_heap h (fun a ha=>Cy (hq a ha) _) (by rw [Fi];exact Nat.le_refl _)
theorem EvI.setRow {w:World} {g:Nat} {F D:Br} {L:List Ab} {A:Option Addr} {c:Nat} {V:World} (h:EvI w g F D L A c V) {q:Nat} (hq:w.heap.size+2<=q) (ho:∀ b,(Value.slice A L.length c).ownBlock=some b->b≠q) {old:Array Value} (hb:Bk V q 68 old) (cs:Array Value):EvI w g F D L A c (V.setRow q cs):=by
 have hgq:g≠q:=by
  rintro rfl;obtain ⟨es,cc,hm,_⟩:=h.rg.map;have:=hm.symm.trans hb;simp at this
 refine ⟨h.rg.keep (Cy (by omega) _) (Cy hgq _),Aq h.bl (by omega) _,h.bx.farRow (by omega) _,h.ow.kept (row:=some q) (setRow_grown V q cs) ?_,fun n hn=>?_⟩
 ·cases hv:(Value.slice A L.length c).ownBlock with
  | none=>exact .inl rfl
  | some b=>exact .inr (fun e=>by injection e with e;exact ho b hv e)
 ·refine Gn (h.st n hn) (fun k t cs2 hk ht=>Cy ?_ _) (by rw [Fi];exact Nat.le_refl _)
  rintro rfl;subst ht;have:=hk.symm.trans hb;simp at this
def EventsP (l:List Ab) (w:World) (e:Ending) (w':World):Prop :=
 ∃ (L:List Ab) (A:Option Addr) (c:Nat),Below w.heap.size w w'/\Bk w' w.heap.size 42 #[.slice A L.length c]/\Gm w' A L/\(∀ n∈L,n.StrT w')/\(∀ a,A=some a->w.heap.size<=a.block/\a.block<w'.heap.size)/\L.length<=l.length/\(L.map Ab.plain).Perm (Jv (l.map Ab.plain))/\L.Pairwise Dk/\e=.returned (.func (.func 137) #[] #[.pointer (some ⟨w.heap.size,0,none⟩)])
theorem own_le {w:World} {base:Nat} {e:TypeId} {size n c:Nat} {A:Option Addr} {xs:List Value} (h:w.ownsRow base e size (.slice A n c) n xs):n<=c:=by
 obtain ⟨A',c',e',hc,_⟩:=Au h;injection e' with _ _ e'
 omega
theorem Gu {w:World} {base:Nat} {e:TypeId} {size n c:Nat} {A:Option Addr} {xs:List Value} (h:w.ownsRow base e size (.slice A n c) n xs):Ad w A xs:=by
 obtain ⟨A',c',hv,_,h3,_⟩:=Au h;injection hv with h1 h2 h4
 subst h1;exact h3
theorem EvI.ends {w:World} {g:Nat} {F D:Br} {L L':List Ab} {A:Option Addr} {c:Nat} {V V':World} (h:EvI w g F D L A c V) (hp:L'.Perm L)
  (hown:V'.ownsRow (w.heap.size+2) 68 19 (.slice A L.length c) L.length (Aw L')) (hg:V.grownBy V' (Value.slice A L.length c).ownBlock) :
  Below w.heap.size w V'/\Bk V' w.heap.size 42 #[.slice A L'.length c]/\Gm V' A L'/\(∀ n∈L',n.StrT V')/\(∀ a,A=some a->w.heap.size<=a.block/\a.block<V'.heap.size):=by
 have hb:∀ b,b<w.heap.size+2->b<V.heap.size->V'.heap[b]?=V.heap[b]?:=fun b hb hlt=>hg.block b hlt (own_ne h.ow hb)
 refine ⟨⟨hg.os.trans h.bl.os,hg.tape.trans h.bl.tape,hg.output.trans h.bl.output,Nat.le_trans h.bl.size hg.size,fun i hi=>(hb i (by omega) (by have:=h.bl.size;omega)).trans (h.bl.block i hi)⟩,?_,⟨Gu hown,fun n hn=>?_⟩,fun n hn=>?_,fun a ha=>by have:=Kc hown a ha;omega⟩
 ·rw [hp.length_eq];exact (hb _ (by omega) h.bx.lt).trans h.bx
 ·exact (Gn (h.st n (hp.mem_iff.1 hn)) (fun q t cs hq ht=>by subst ht;exact hg.block q hq.lt (Bl h.ow hq (by decide))) hg.size).1
 ·exact (Gn (h.st n (hp.mem_iff.1 hn)) (fun q t cs hq ht=>by subst ht;exact hg.block q hq.lt (Bl h.ow hq (by decide))) hg.size).2
end
section
noncomputable def buildI (t:TypeId) (ps:Array (Nat×Value)):Sem Value:=Instr.buildSlice t 1 ps
noncomputable def buildN (t:TypeId) (ps:Array (Nat×Value)) (w:World):Result Value:=Sem.run Tryz.prog (Instr.buildSlice t 1 ps) w
theorem build_run (t:TypeId) (ps:Array (Nat×Value)) (w:World):Sem.run Tryz.prog (buildI t ps) w=buildN t ps w:=rfl
theorem build_at42 (ps:Array (Nat×Value)):Instr.buildSlice 42 1 ps=buildI 42 ps:=rfl
theorem build_at46 (ps:Array (Nat×Value)):Instr.buildSlice 46 1 ps=buildI 46 ps:=rfl
theorem build42 (n:Ab) (W:World):buildN 42 #[(0,.agg n.arr)] W=.ok (.slice (some ⟨W.heap.size,0,none⟩) 1 1) (W.alloc (.cells n.arr 68)):=by unfold buildN;kernel_rfl
theorem build46 (e:EvD) (W:World):buildN 46 #[(0,.agg e.cells.toArray)] W=.ok (.slice (some ⟨W.heap.size,0,none⟩) 1 1) (W.alloc (.cells e.cells.toArray 70)):=by unfold buildN;kernel_rfl
end
end Go.Proofs.YteihcodicfoiaaaGreat
