/-
  What is proved: contracts and plain facts that TopForget stands on (MixIn, Steps, Graph, Rot, Valid, Cmp, Driven, Open, SeekM, CutAny, Small2, Seek, Loop, LightEv, Counts, CountsT).
-/
import Derived.Test.YteihcodicfoiaaaGreat0Mf
import Derived.Sort.QuietThIn
import Derived.TacticsIn
import Derived.Test.YteihcodicfoiaaaGreatOverMf
import Derived.RangeFuncNested
import Derived.RangeFuncBound
import Derived.RangeFuncCalls
import Derived.RangeFuncLeaves
import Derived.Shelf.RegionOpen
import Derived.OwnWalkIn
import Derived.TacticsInMore
import Derived.LoopNIn
import Derived.LoopIn
import Derived.Sort.QuietIn
import Derived.RegionTactic
import Derived.BigRegion
import Derived.Deep.DeepCutAuto
import Derived.OwnWalk
import Derived.Laws.EntriesVeiled
namespace Go.Proofs.YteihcodicfoiaaaGreat
set_option maxRecDepth 100000
set_option maxHeartbeats 8000000
open Go Go.RowKit
section
section
variable {P:Program} {ops:Array Oper} {md:Region.Mode} {C:World->Prop} {m:Nat}
theorem room1 {n:Nat}:(Fence.wide.depth.isSome=true->1<=n):=fun h=>by simp [Fence.wide] at h
theorem qOpIn_of_qOp {i:Nat} {K:Act->Prop} {a:Act} (h:qOp P ops C i K a):qOpIn Fence.wide m P ops C i K a:=by
 unfold qOp at h;unfold qOpIn;cases ho:ops[i]? with
 | none=>simp only [ho] at h ⊢;exact h
 | some o =>
  simp only [ho] at h ⊢;refine ⟨fun _ _ _ _=>trivial,?_⟩
  split
  ·rename_i hw;simp only [hw,if_true] at h;obtain ⟨v,h1,h2⟩:=h;refine ⟨v,fun w hC=>?_,h2⟩
   have h3:=h1 w hC;unfold Oper.quietAt at h3;unfold Oper.quietAtIn;generalize (execOp a.eval o).run P w=r at *;unfold Oper.quietUpon at h3;unfold Oper.quietUponIn
   split at h3
   ·exact h3
   ·exact h3
   ·exact ⟨h3.1,room1,callsIn_wide.2 h3.2⟩
   ·exact h3.elim
  ·rename_i hw;simp only [hw] at h;exact h
theorem wpAnyIn_of_headM {n g:Nat} {L:Array Bool->Act->Prop} {Q':Exit->Act->World->Prop} (hL:∀ listed a,L listed a->∀ w,C w->wpAnyIn Fence.wide m P md ops Q' g listed a w) :
  ∀ (f:Nat) (listed:Array Bool) (a:Act) (w:World),C w->wpAnyM P md ops C n L f listed a->wpAnyIn Fence.wide m P md ops Q' (f+g) listed a w
 | 0,listed,a,w,hC,h=>by rw [Nat.zero_add];exact hL _ _ h w hC
 | f+1,listed,a,w,hC,h=>by
  rw [show f+1+g=(f+g)+1 by omega]
  exact ⟨fun h0=>absurd h0 h.1,fun i hi=>wpOpIn_of_qOpIn rfl hC (fun a' w' hC' h'=>wpAnyIn_of_headM hL f _ a' w' hC' h') (qOpIn_of_qOp (h.2 i hi).2)⟩
def loudB (ops:Array Oper) (n:Nat):Bool:=(List.range ops.size).all fun t=>decide (t<n) || !((ops[t]?).map Fm).getD false
theorem wpAnyIn_of_mix {Q:Exit->Act->World->Prop} {n:Nat} (hl:loudB ops n=true) :
  ∀ (l:List Oper) (k:Nat) (listed:Array Bool) (a:Act) (w:World),n<=k->(∀ j,l[j]?=ops[k+j]?)->
  seqM md ops l.length k listed=true->wpListIn Fence.wide m P ops Q l a w->wpAnyIn Fence.wide m P md ops Q l.length listed a w
 | [],_,_,_,_,_,_,hB,h=>⟨by simpa [seqM] using hB,h⟩
 | o :: l,k,listed,a,w,hk,hlj,hB,h=>by
  have h0:ops[k]?=some o:=by simpa using (hlj 0).symm
  have hks:k<ops.size:=(Array.getElem?_eq_some_iff.1 h0).1;have hl':∀ j,l[j]?=ops[k+1+j]?:=fun j=>by have:=hlj (j+1);simpa [Nat.add_assoc,Nat.add_comm 1 j] using this
  have hnp:Fm o=false:=by
   have h1:=List.all_eq_true.1 hl k (List.mem_range.2 hks);simp only [h0,Option.map_some,Option.getD_some,Bool.or_eq_true,decide_eq_true_eq,Bool.not_eq_true'] at h1;rcases h1 with h1 | h1
   ·omega
   ·exact h1
  simp only [List.length_cons,seqM,Bool.and_eq_true,Bool.or_eq_true,decide_eq_true_eq] at hB;obtain ⟨hB1 | ⟨⟨hp,hr⟩,hf⟩,hB2⟩:=hB
  ·refine ⟨fun h1=>(by rw [hB1] at h1;cases h1),fun i hi=>?_⟩
   rw [hB1] at hi;have hik:i=k:=by simpa using hi
   subst hik;have hw:wpOpIn Fence.wide m P ops Q i (wpListIn Fence.wide m P ops Q l) a w:=by unfold wpOpIn;simp only [h0];exact h
   exact wpOpIn_mono (fun a' w' h'=>wpAnyIn_of_mix hl l (i+1) _ a' w' (by omega) hl' hB2 h') hw
  ·simp [h0,hnp] at hp
theorem wpIn_region_mix {id:Nat} {Q:Exit->Act->World->Prop} {a:Act} {w:World} {l:List Oper} (n:Nat) (hm:P.follows .mixedOrders=true) (hB:mixB .any l.toArray n=true) (hl:loudB l.toArray n=true)
  (hC:C { w with drawn:=w.drawn+1 })
  (h:wpQuiet P l.toArray C (fun a'=>∀ w',C w'->wpListIn Fence.wide m P l.toArray Q (l.drop n) a' w') (l.take n) a):(Code.region id l.toArray true).wpIn Fence.wide m P Q a w:=by
 simp only [mixB,Bool.and_eq_true,decide_eq_true_eq] at hB;obtain ⟨⟨⟨⟨hsel,hn⟩,hs⟩,hc⟩,hlex⟩:=hB;have hn':n<l.length:=by simpa using hn
 have htl:(l.take n).length=n:=by simp;omega
 have hdl:(l.drop n).length=l.toArray.size - n:=by simp
 have inv0:HeadInv .any l.toArray n (Array.replicate l.toArray.size false) :=
  ⟨by simp,fun j oj _ hl=>(by rw [getD_replicate_false] at hl;cases hl),fun t _ ht=>getD_in (by simpa using ht) (getD_replicate_false _ _)⟩
 have H:=wpAnyM_lex (md:=.any) (g:=l.toArray.size - n) hsel hs hc hn (l.take n) 0 _ a (fun j hj=>by
  have hj':j<n:=by rw [htl] at hj;exact hj
  simp [hj']) (by simpa using htl) inv0 (fun j hj=>absurd hj (by omega)) (by rw [htl];exact hlex) h
 refine wpIn_region_any hm ?_;have:=wpAnyIn_of_headM (m:=m) (Q':=Q) (g:=l.toArray.size - n) (fun listed a' hL w' hw'=>by
  have:=wpAnyIn_of_mix (m:=m) (md:=.any) hl (l.drop n) n listed a' w' Le (fun j=>by simp [List.getElem?_drop]) (by rw [hdl];exact hL.2.1) (hL.2.2 w' hw')
  rwa [hdl] at this) _ _ _ _ hC H
 rw [htl,show n+(l.toArray.size - n)=l.toArray.size by omega] at this
 exact this
theorem Jc {id:Nat} {Q:Exit->Act->World->Prop} {a:Act} {w:World} {l:List Oper} (n:Nat) (hm:P.follows .mixedOrders=true) (hB:mixB .any l.toArray n=true) (hl:loudB l.toArray n=true)
  (h:wpQuiet P l.toArray (fun w'=>∃ x:Ext w,w'=x.w) (fun a'=>∀ w',(∃ x:Ext w,w'=x.w)->wpListIn Fence.wide m P l.toArray Q (l.drop n) a' w') (l.take n) a):(Code.region id l.toArray true).wpIn Fence.wide m P Q a w :=
 wpIn_region_mix n hm hB hl (Ext.here w) h
end
end
section
attribute [local go_sem ↓] Ei Eh
attribute [local go_sem] Oper.semAt_some
def En (f:Flr) (i:Nat):List (Mv×Option Nat) :=
 (Ju f (Cv f.R f.S i) (Eo f.S i) (Cq f.R f.S i)).map fun m=>(m,nextN f (Cv f.R f.S i) (Eo f.S i) (Cq f.R f.S i) m)
abbrev StepOf (f:Flr) (i:Nat):={ x:Mv×Option Nat // x∈En f i }
def stepEnc (f:Flr) (i:Nat) (x:StepOf f i):Array Value:=#[.agg #[.int .i64 x.1.1.out,.int .i64 x.1.1.side,.bool x.1.1.cut],.int .i64 (nextV x.1.2)]
theorem state_lt {f:Flr} (hok:f.Ok) {i:Nat} (hi:i<f.R*f.S*f.S):Cv f.R f.S i<f.R/\Eo f.S i<f.S/\Cq f.R f.S i<f.S/\i<1000:=by
 obtain ⟨r0,r1,s0,s1,_,_,_,_,_,_⟩:=hok;have h1:f.R*f.S*f.S<=4*8*8:=Nat.mul_le_mul (Nat.mul_le_mul r1 s1) s1;refine ⟨Nat.mod_lt _ (by omega),Nat.mod_lt _ (by omega),?_,by omega⟩
 unfold Cq;refine Nat.div_lt_of_lt_mul ?_;rw [Nat.mul_comm f.S f.R];exact hi
def KpS (n₀:Nat) (W W':World):Prop:=Below n₀ W W'/\∀ (k:Nat) (cs:Array Value) (t:TypeId) (r:Nat×Nat),t=178\/t=173->W.heap[k]?=some (.cells cs t r)->W'.heap[k]?=some (.cells cs t r)
theorem KpS.trans {n₀:Nat} {A B C:World} (h:KpS n₀ A B) (k:KpS n₀ B C):KpS n₀ A C:=⟨h.1.trans k.1,fun j cs t r ht hj=>k.2 j cs t r ht (h.2 j cs t r ht hj)⟩
theorem KpS.bk {n₀:Nat} {W W':World} {q:Nat} {t:TypeId} {cs:Array Value} (h:KpS n₀ W W') (ht:t=178\/t=173) (hb:Bk W q t cs):Bk W' q t cs:=h.2 q cs t (0,0) ht hb
theorem steps_any (b:Nat) (i:Int) (w:World) :
  Calls Tryz.prog 196 #[.pointer (some ⟨b,0,none⟩),.int .i64 i] w fun e w'=>e=.returned (.func (.func 224) #[] #[.pointer (some ⟨w.heap.size,0,none⟩),.pointer (some ⟨w.heap.size+1,0,none⟩)])/\
   Bk w' w.heap.size 173 #[.pointer (some ⟨b,0,none⟩)]/\Bk w' (w.heap.size+1) 3 #[.int .i64 i]/\Below w.heap.size w w':=by
 have A0:Bk ((w.alloc (.cells #[.pointer (some ⟨b,0,none⟩)] 173)).alloc (.cells #[.int .i64 i] 3)) w.heap.size 173 #[.pointer (some ⟨b,0,none⟩)]:=(Aa rfl).alloc _;have A1:Bk ((w.alloc (.cells #[.pointer (some ⟨b,0,none⟩)] 173)).alloc (.cells #[.int .i64 i] 3)) (w.heap.size+1) 3 #[.int .i64 i]:=Aa (by simp)
 have hB:Below w.heap.size w ((w.alloc (.cells #[.pointer (some ⟨b,0,none⟩)] 173)).alloc (.cells #[.int .i64 i] 3)):=Ba.alloc (by simp) _
 go_enter Tryz.func196,Tryz.ntmps196;go_wp2_with fail;go_ret;exact ⟨rfl,A0,A1,hB⟩
theorem Hh {w1 w2:World} {r:Option Nat} (h:Below w1.heap.size w1 w2):w1.grownBy w2 r:=⟨h.os,h.tape,h.output,h.size,fun k hk _=>h.block k hk⟩
theorem steps1_stops (n n₀ b B2 B3:Nat) (f:Flr) (z:Hc) (i:Nat) (w0 w:World) (hf:Hu w0 b f z) (hok:f.Ok) (hi:i<f.R*f.S*f.S) (hn0:w0.heap.size=n₀) (hw0:Below n₀ w0 w) (h2:Bk w B2 173 #[.pointer (some ⟨b,0,none⟩)]) (h3:Bk w B3 3 #[.int .i64 i]) :
  SeqStopsK Fence.wide n Tryz.prog 224 #[.pointer (some ⟨B2,0,none⟩),.pointer (some ⟨B3,0,none⟩)] (stepEnc f i) (KpS n₀) (fun xs=>xs=(En f i).attach) (fun pre=>pre <+: (En f i).attach) (En f i).length w:=by
 intro l J Jx W hW hJ hJx hY h0;obtain ⟨e1,e2,e3,e4⟩:=state_lt hok hi;subst hn0;have hw1:Below w0.heap.size w0 W:=hw0.trans (hW.mono hw0.size);have K2:=h2.keep hW;have K3:=h3.keep hW;have HS:=Hd (fun (X:World) (h:Below w0.heap.size w0 X)=>state_any b f z i X (hf.below h) hok e4)
 have HM:=Hd (fun (X:World) (h:Below w0.heap.size w0 X)=>moves_any b f z _ _ _ X (hf.below h) hok e1 e2 e3)
 have HL:Hid (En f i=(Ju f (Cv f.R f.S i) (Eo f.S i) (Cq f.R f.S i)).map fun m=>(m,nextN f (Cv f.R f.S i) (Eo f.S i) (Cq f.R f.S i) m)):=rfl
 have HF:=Hd hf;have hk2:=K2.lt;have hk3:=K3.lt;have b2:=K2.cell 0;have b3:=K3.cell 0;simp at b2 b3;refine callsIn_of_wp Tryz.func224 rfl trivial ?_ rfl;simp only [Tryz.ntmps224,List.size_toArray,List.length_cons,List.length_nil,Nat.reduceAdd,Nat.reduceSub,Array.replicate_succ,Array.replicate_zero,List.push_toArray,List.append_toArray,List.nil_append,List.cons_append];refine wpIn_wide.2 ?_;have hlm:(Ju f (Cv f.R f.S i) (Eo f.S i) (Cq f.R f.S i)).length=(f.drive.getD (Kf f (Cv f.R f.S i) (Eo f.S i) (Cq f.R f.S i)) []).length:=rfl;have k3:=(kinds_in hok (turn:=Cq f.R f.S i) e1 e2).2.2;have hdk:=hok.dk _ (Cg [] (show Kf f (Cv f.R f.S i) (Eo f.S i) (Cq f.R f.S i)<f.drive.length by rw [hok.dl];exact k3))
 have HD:=Hd (fun (X:World) (h:Below w0.heap.size w0 X)=>(hf.below h).drv _ k3)
 have HNX:=Hd (fun (X:World) (h:Below w0.heap.size w0 X) (m:Mv) (hm:-1<=m.out/\m.out<=1 /\ -1<=m.side/\m.side<=1)=>next_any b f z _ _ _ m X (hf.below h) hok e1 e2 e3 hm)
 unfold stV at HS HM HNX;unfold drCell at HM;change Hid (∀ X,Below w0.heap.size w0 X->Ad X (z.dr.getD (Kf f (Cv f.R f.S i) (Eo f.S i) (Cq f.R f.S i)) (none,0)).1 (Gz (Ju f (Cv f.R f.S i) (Eo f.S i) (Cq f.R f.S i)))) at HD;change 1<=(Ju f (Cv f.R f.S i) (Eo f.S i) (Cq f.R f.S i)).length/\(Ju f (Cv f.R f.S i) (Eo f.S i) (Cq f.R f.S i)).length<=3/\∀ m∈Ju f (Cv f.R f.S i) (Eo f.S i) (Cq f.R f.S i),-1<=m.out/\m.out<=1 /\ -1<=m.side/\m.side<=1 at hdk;rw [<- hlm] at HM;clear hlm;generalize (z.dr.getD (Kf f (Cv f.R f.S i) (Eo f.S i) (Cq f.R f.S i)) (none,0)).1=A at *;generalize (z.dr.getD (Kf f (Cv f.R f.S i) (Eo f.S i) (Cq f.R f.S i)) (none,0)).2=c at *;generalize Cv f.R f.S i=ring at *;generalize Eo f.S i=sec at *;generalize Cq f.R f.S i=turn at *;go_upto_region 1 with (go_at_call 123;refine (HS.out _ hw1).mono ?_;rintro e w1 ⟨rfl,hb1⟩)
 have S4:Bk (w1.alloc (.cells #[.int .i64 ring,.int .i64 sec,.int .i64 turn] 178)) w1.heap.size 178 #[.int .i64 ring,.int .i64 sec,.int .i64 turn]:=Aa rfl;have hb2:Below w1.heap.size w1 (w1.alloc (.cells #[.int .i64 ring,.int .i64 sec,.int .i64 turn] 178)):=Ba;generalize w1.alloc (.cells #[.int .i64 ring,.int .i64 sec,.int .i64 turn] 178)=w2 at *;have hb12:=hb1.trans (hb2.mono hb1.size);replace K2:=K2.keep hb12;have hw2:=hw1.trans (hb12.mono hw1.size);generalize w1.heap.size=q4 at *;replace b2:=K2.cell 0;have s0:=S4.cell 0;have s1:=S4.cell 1;have s2:=S4.cell 2;simp at b2 s0 s1 s2;have HW2:=Hd (Ai hb12 hw2);clear b3 K3 hb1 hb2 hw1 HS;go_upto_region 2 with (go_at_call 125;refine (HM.out _ hw2).mono ?_;rintro e w3 ⟨rfl,hb3⟩)
 clear b2 s0 s1 s2;replace K2:=K2.keep hb3;replace S4:=S4.keep hb3;have hb13:=HW2.out.1.trans (hb3.mono HW2.out.1.size);have hw3:=HW2.out.2.trans (hb3.mono HW2.out.2.size);have hJ0:J [] w3:=hJ _ W w3 none h0 (Hh hb13) (fun r e=>by cases e)
 clear HW2 HM hb3 h0 hb12 hw2;generalize hms:Ju f ring sec turn=ms at *;have hlen:(En f i).length=ms.length:=by rw [HL.out];simp
 refine (wpIn_wide (n:=n)).1 ?_;gi_loopw [6,14] (fun _ ix wr=>∃ k:Nat,k<=ms.length/\ix=.int .i64 k/\J ((En f i).attach.take k) wr/\Bk wr B2 173 #[.pointer (some ⟨b,0,none⟩)]/\Bk wr q4 178 #[.int .i64 ring,.int .i64 sec,.int .i64 turn]/\Below w0.heap.size w0 wr/\W.heap.size<=wr.heap.size) (fun _ ix _=>ms.length - (intOf ix).toNat)
 case atStart=>exact ⟨0,Nat.zero_le _,rfl,by simpa using hJ0,K2,S4,hw3,hb13.size⟩
 case round =>
  clear hJ0 K2 S4;obtain ⟨k,hk,rfl,hJk,K2,S4,hwr,hszr⟩:=hrel
  by_cases hlt:k<ms.length
  ·have hkI:(k:Int)<ms.length:=by omega
   obtain ⟨b5,o5,hA,hb5,hc5⟩:=mv_row (HD.out wr hwr) (by omega)
   obtain ⟨c0,c1,c2⟩:=hc5 k hlt;have hmm:=hdk.2.2 _ (List.getElem_mem hlt);have hkl:k<(En f i).length:=by omega
   have hxk:(En f i)[k]=(ms[k],nextN f ring sec turn ms[k]):=by
    simp only [HL.out,List.getElem_map]
   have hNX:=HNX.out;have HX:Hid (stepEnc f i ((En f i).attach[k]'(by simpa using hkl))=#[.agg #[.int .i64 ms[k].out,.int .i64 ms[k].side,.bool ms[k].cut],.int .i64 (nextV (nextN f ring sec turn ms[k]))]):=by
    simp only [Hid,stepEnc,List.getElem_attach,hxk]
   have HTK:Hid ((En f i).attach.take (k+1)=(En f i).attach.take k ++ [(En f i).attach[k]'(by simpa using hkl)]):=by
    refine Hd ?_;rw [List.take_add_one,List.getElem?_eq_getElem (by simpa using hkl)];rfl
   have HN:=Hd (fun (X:World) (h:Below w0.heap.size w0 X)=>hNX X h ms[k] hmm)
   have hplen:((En f i).attach.take k).length<(En f i).length:=by rw [List.length_take,List.length_attach];omega
   rw [hA];clear hc5 hxk hmm hNX HNX hA;generalize (En f i).attach[k]'(by simpa using hkl)=xk at *
   generalize nextV (nextN f ring sec turn ms[k])=nv at *;generalize ms[k]=mk at *;obtain ⟨mo,msd,mc⟩:=mk;simp only at c0 c1 c2 HX HN;obtain ⟨w5,hw5⟩:∃ w5,wr.alloc (.cells #[.int .i64 mo,.int .i64 msd,.bool mc] 247)=w5:=⟨_,rfl⟩;have Y5:Bk w5 wr.heap.size 247 #[.int .i64 mo,.int .i64 msd,.bool mc]:=by rw [<- hw5];exact Aa rfl
   have hb5':Below wr.heap.size wr w5:=by rw [<- hw5];exact Ba
   have HW5:=Hd hw5;have y0:=Y5.cell 0;have y1:=Y5.cell 1;have y2:=Y5.cell 2;have b2:=(K2.keep hb5').cell 0;have s0:=(S4.keep hb5').cell 0;have s1:=(S4.keep hb5').cell 1;have s2:=(S4.keep hb5').cell 2;simp at y0 y1 y2 b2 s0 s1 s2;have hw05:=hwr.trans (hb5'.mono hwr.size);have HK:=Hd (Ai K2 (Ai S4 (Ai hJk (Ai hb5' hw05))));clear hw5 Y5 K2 S4 hJk hb5' hw05;refine (wpIn_wide (n:=n)).2 ?_;go_upto_region 4 with fail
   rw [HW5.out];clear HW5 c0 c1 c2;refine (wpIn_wide (n:=n)).1 ?_;have K86:Hid (∀ x:Ext w5,Calls Tryz.prog 225 #[.pointer (some ⟨b,0,none⟩),.agg #[.int .i64 ring,.int .i64 sec,.int .i64 turn],.agg #[.int .i64 mo,.int .i64 msd,.bool mc]] x.w fun e w'=>e=.returned (.int .i64 nv)/\Below x.w.heap.size x.w w'):=fun x=>HN.out x.w (HK.out.2.2.2.2.trans (x.bel.mono HK.out.2.2.2.2.size))
   replace y0:=fun x:Ext w5=>Ag x.bel y0
   replace y1:=fun x:Ext w5=>Ag x.bel y1
   replace y2:=fun x:Ext w5=>Ag x.bel y2
   replace b2:=fun x:Ext w5=>Ag x.bel b2
   replace s0:=fun x:Ext w5=>Ag x.bel s0
   replace s1:=fun x:Ext w5=>Ag x.bel s1
   replace s2:=fun x:Ext w5=>Ag x.bel s2
   refine Jc 6 (by kernel_rfl) (by kernel_rfl) (by kernel_rfl) ?_
   simp only [List.take_succ_cons,List.take_zero,List.drop_succ_cons,List.drop_zero];repeat (go_big_quiet_step (fail))
   go_big_quiet_step ((go_at_call 225;exact Cj (K86.out _)));repeat (go_big_quiet_step (fail))
   refine wpQuiet_nil ?_;rintro _ ⟨y,rfl⟩;clear y0 y1 y2 b2 s0 s1 s2 K86;have hb6:=y.bel;generalize y.w=w6 at hb6 ⊢;obtain ⟨K2,S4,hJk,hb5',hw05⟩:=HK.out;have hb56:=hb5'.trans (hb6.mono hb5'.size);have hJ6:J ((En f i).attach.take k) w6:=hJ _ wr w6 none hJk (Hh hb56) (fun r e=>by cases e)
   have hw6:=hwr.trans (hb56.mono hwr.size);obtain ⟨fn,tmps,assign,body,hy,hR⟩:=hY _ xk w6 hJ6 hplen;rw [HX.out] at hy;have HK6:=Hd (Ai (K2.keep hb56) (Ai (S4.keep hb56) hw6));have hs56:=hb56.size;clear K2 S4 hJk hb5' hw05 HK hb6 hJ6 hY hwr hb56;gi_wp2;refine ⟨fun h=>(by simp [Fence.wide] at h),hR.mono ?_⟩
   rintro e W7 (⟨rfl,hJ7,hk7⟩ | ⟨rfl,hJx7⟩)
   ·obtain ⟨K6,S6,hw6⟩:=HK6.out;have hz7:W.heap.size<=W7.heap.size:=Nat.le_trans (Nat.le_trans hszr hs56) hk7.1.size;have HE:=Hd (Ai (hk7.bk (Or.inr rfl) K6) (Ai (hk7.bk (Or.inl rfl) S6) (Ai (hw6.trans hk7.1) hz7)));rw [<- HTK.out] at hJ7;clear hk7 K6 S6 hw6 HK6;gi_wp2;go_wp2_with fail;go_roundw
    case rel=>exact ⟨k+1,by omega,by go_num,hJ7,HE.out.1,HE.out.2.1,HE.out.2.2.1,HE.out.2.2.2⟩
    case measure=>simp [intOf];omega
   ·rw [<- HTK.out] at hJx7;clear HK6;gi_wp2;go_wp2_with fail;refine bodyPost_ret (results_none rfl _ _ _) rfl ?_;exact ⟨⟨_,rfl⟩,.inr ⟨_,List.take_prefix _ _,hJx7⟩⟩
  ·obtain rfl:k=ms.length:=by omega
   have htk:(En f i).attach.take ms.length=(En f i).attach:=List.take_of_length_le (by rw [List.length_attach,hlen];exact Nat.le_refl _)
   rw [htk] at hJk;gi_wp2;go_end0;exact ⟨⟨_,rfl⟩,.inl ⟨_,rfl,hJk⟩⟩
end
section
open Go.RowKit Classical
def stepR (f:Flr) (i k:Nat):Prop:=∃ m,(m,some k)∈En f i
inductive Ko (f:Flr):Nat->Prop
 | mk {i:Nat}:(∀ k,stepR f i k->Ko f k)->Ko f i
end
section
theorem num_lt {R S ring sec turn:Nat} (h1:ring<R) (h2:sec<S) (h3:turn<S):numN R S ring sec turn<R*S*S:=by
 unfold numN;have a1:turn*R+ring<S*R:=by
  have:(turn+1)*R<=S*R:=Nat.mul_le_mul_right R h3;rw [Nat.add_mul] at this;omega
 have a2:(turn*R+ring+1)*S<=S*R*S:=Nat.mul_le_mul_right S a1;rw [Nat.add_mul] at a2;rw [Nat.mul_comm R S];omega
end
section
def firstBad (bad:Int->Bool) (xs:List Int):Int:=match xs.findIdx? bad with | some i=>i | none=>-1
theorem firstBad_hit (bad:Int->Bool) (xs:List Int) (k:Nat) (hk:k<xs.length) (h:∀ j (h:j<xs.length),j<k->bad xs[j]=false) (hb:bad xs[k]=true):firstBad bad xs=k:=by
 have e:xs.findIdx? bad=some k:=by
  rw [List.findIdx?_eq_some_iff_getElem];exact ⟨hk,hb,fun j hj=>by simp [h j (by omega) hj]⟩
 simp [firstBad,e]
theorem firstBad_none (bad:Int->Bool) (xs:List Int) (h:∀ j (h:j<xs.length),j<xs.length->bad xs[j]=false):firstBad bad xs = -1:=by
 have e:xs.findIdx? bad=none:=by
  rw [List.findIdx?_eq_none_iff];intro m hm;obtain ⟨j,hj,rfl⟩:=List.getElem_of_mem hm;simp [h j hj hj]
 simp [firstBad,e]
theorem firstBad_any (bad:Int->Bool) (xs:List Int):decide (firstBad bad xs>=0)=xs.any bad:=by
 unfold firstBad;cases e:xs.findIdx? bad with
 | none =>
  rw [List.findIdx?_eq_none_iff] at e;have h:xs.any bad=false:=by rw [List.any_eq_false];intro m hm;simpa using e m hm
  simp [h]
 | some i =>
  rw [List.findIdx?_eq_some_iff_getElem] at e;obtain ⟨hi,h1,_⟩:=e;have h:xs.any bad=true:=by
   rw [List.any_eq_true];exact ⟨xs[i],List.getElem_mem hi,h1⟩
  simp [h]
theorem not_any (bad:Int->Bool) (xs:List Int):(!xs.any bad)=xs.all fun x=>!bad x:=by
 induction xs with
 | nil=>rfl
 | cons x xs ih=>simp [<- ih]
theorem He (n lo hi:Int) (w:World) :
  Calls Tryz.prog 165 #[.int .i64 n,.int .i64 lo,.int .i64 hi] w fun e w'=>e=.returned (.bool (inB n lo hi))/\w=w':=by
 go_enter Tryz.func165,Tryz.ntmps165;go_wp2
 all_goals
  go_ret;exact ⟨Af (by simp [inB];try omega),rfl⟩
theorem kind_any (n:Int) (w:World) :
  Calls Tryz.prog 167 #[.int .i64 n] w fun e w'=>e=.returned (.bool (inB n 0 2))/\w=w':=by
 by_cases h0:n=0
 ·subst h0;go_enter Tryz.func167,Tryz.ntmps167;go_wp2;go_ret;exact ⟨Af (by decide),rfl⟩
 ·by_cases h1:n=1
  ·subst h1;go_enter Tryz.func167,Tryz.ntmps167;go_wp2;go_ret;exact ⟨Af (by decide),rfl⟩
  ·by_cases h2:n=2
   ·subst h2;go_enter Tryz.func167,Tryz.ntmps167;go_wp2;go_ret;exact ⟨Af (by decide),rfl⟩
   ·have e0:(n == 0)=false:=by simpa using h0
    have e1:(n == 1)=false:=by simpa using h1
    have e2:(n == 2)=false:=by simpa using h2
    go_enter Tryz.func167,Tryz.ntmps167;go_wp2;go_ret;exact ⟨Af (by simp [inB];omega),rfl⟩
theorem valid1_any (n:Int) (w:World) :
  Calls Tryz.prog 166 #[.int .i64 n] w fun e w'=>e=.returned (.bool (!inB n 0 2))/\w=w':=by
 go_enter Tryz.func166,Tryz.ntmps166;go_wp2_with (go_at_call 167;refine (kind_any _ _).mono ?_;rintro e w1 ⟨rfl,rfl⟩);go_ret;exact ⟨rfl,rfl⟩
theorem index133_any (A:Option Addr) (c:Nat) (xs:List Int) (w:World) (hL:Ad w A (Ac xs)) (hn:xs.length<=9223372036854775807) :
  Calls Tryz.prog 156 #[.slice A xs.length c,.func (.func 166) #[] #[]] w fun e w'=>e=.returned (.int .i64 (firstBad (fun n=>!inB n 0 2) xs))/\w=w':=by
 go_enter Tryz.func156,Tryz.ntmps156;go_wp2;go_loop [8] (fun i=>∃ k:Nat,k<=xs.length/\i=.int .i64 k/\Hid (∀ j (h:j<xs.length),j<k->(!inB xs[j] 0 2)=false)) (fun i=>xs.length - (intOf i).toNat)
 case atStart=>exact ⟨0,Nat.zero_le _,rfl,fun j _ h=>absurd h (by omega)⟩
 case round =>
  obtain ⟨k,hk,rfl,hall⟩:=hrel
  by_cases hlt:k<xs.length
  ·obtain ⟨b',off,hA,hb',hc⟩:=hL.int (by omega)
   have c0:=hc k hlt;clear hc;rw [hA];clear hA;have hv:=valid1_any xs[k] w;have HV:=Hd (fun j (hj:j<xs.length) (hjk:j<k+1) (hg:(!inB xs[k] 0 2)=false)=>show (!inB xs[j] 0 2)=false by
    rcases Nat.lt_or_ge j k with h | h
    ·exact hall.out j hj h
    ·obtain rfl:j=k:=by omega
     exact hg)
   cases hb:(!inB xs[k] 0 2)
   ·rw [hb] at hv;have HB:=Hd hb;clear hb;go_wp2_with (go_at_call 166;refine hv.mono ?_;rintro e w1 ⟨rfl,rfl⟩);go_round
    case rel=>exact ⟨k+1,by omega,by go_num,fun j hj hjk=>HV.out j hj hjk HB.out⟩
    case measure=>simp [intOf];omega
   ·rw [hb] at hv;have HB:=Hd hb;clear hb;go_wp2_with (go_at_call 166;refine hv.mono ?_;rintro e w1 ⟨rfl,rfl⟩);go_ret;exact ⟨Cb (firstBad_hit _ xs k hlt hall.out HB.out).symm,rfl⟩
  ·have:k=xs.length:=by omega
   subst this;go_wp2;go_ret;exact ⟨Cb (firstBad_none _ xs hall.out).symm,rfl⟩
theorem contains133_any (A:Option Addr) (c:Nat) (xs:List Int) (w:World) (hL:Ad w A (Ac xs)) (hn:xs.length<=9223372036854775807) :
  Calls Tryz.prog 108 #[.slice A xs.length c,.func (.func 166) #[] #[]] w fun e w'=>e=.returned (.bool (xs.any (fun n=>!inB n 0 2)))/\w=w':=by
 go_enter Tryz.func108,Tryz.ntmps108;go_wp2_with (go_at_call 156;refine (index133_any _ _ _ _ hL hn).mono ?_;rintro e w1 ⟨rfl,rfl⟩);go_ret;exact ⟨Af (firstBad_any _ xs),rfl⟩
structure Fac where
 eye:Int
 rings:Int
 sec:Int
 kinds:List Int
def Fac.val (f:Fac) (A:Option Addr) (c:Nat):Value:=.agg #[.int .i64 f.eye,.int .i64 f.rings,.int .i64 f.sec,.slice A f.kinds.length c]
def Fac.ok (f:Fac):Bool:=inB f.eye 1 16 && inB f.rings 1 24 && inB f.sec 2 96 && (f.kinds.length:Int) == f.rings*f.sec && f.kinds.all fun k=>inB k 0 2
theorem fac_ok {f:Fac} (h:f.ok=true):1<=f.eye/\f.eye<=16/\1<=f.rings/\f.rings<=24/\2<=f.sec/\f.sec<=96/\(f.kinds.length:Int)=f.rings*f.sec/\f.kinds.length<=2304:=by
 simp only [Fac.ok,Bool.and_eq_true,inB,decide_eq_true_eq,beq_iff_eq] at h;obtain ⟨⟨⟨⟨h1,h2⟩,h3⟩,h4⟩,_⟩:=h;refine ⟨h1.1,h1.2,h2.1,h2.2,h3.1,h3.2,h4,?_⟩;have:f.rings*f.sec<=24*96:=Int.mul_le_mul h2.2 h3.2 (by omega) (by omega)
 omega
attribute [local go_sem] Fac.val
attribute [local go_sem ↓] Ei Eh
theorem Jh (f:Fac) (A:Option Addr) (c:Nat) (w:World) (hL:Ad w A (Ac f.kinds)) (hn:f.kinds.length<=9223372036854775807) :
  Calls Tryz.prog 120 #[f.val A c] w fun e w'=>e=.returned (.bool f.ok)/\Below w.heap.size w w':=by
 obtain ⟨eye,rings,sec,kinds⟩:=f;simp only [Fac.val,Fac.ok] at *;have hB:Below w.heap.size w (w.alloc (.cells #[.int .i64 eye,.int .i64 rings,.int .i64 sec,.slice A kinds.length c] 24)):=Ba
 by_cases h1:inB eye 1 16=true
 ·by_cases h2:inB rings 1 24=true
  ·by_cases h3:inB sec 2 96=true
   ·have h2':=h2;have h3':=h3;simp only [inB,decide_eq_true_eq] at h2' h3';have hm:0<=rings*sec/\rings*sec<=24*96:=⟨Int.mul_nonneg (by omega) (by omega),Int.mul_le_mul (by omega) (by omega) (by omega) (by omega)⟩
    by_cases h4:(kinds.length:Int)=rings*sec
    ·have h4b:((kinds.length:Int) == rings*sec)=true:=by simpa using h4
     have HV:=Hd (not_any (fun n=>!inB n 0 2) kinds)
     rw [h1,h2,h3,h4b];clear h4b;have hne:((kinds.length:Int) != rings*sec)=false:=by simp [h4]
     clear h4;go_enter Tryz.func120,Tryz.ntmps120;go_wp2_with (first | (go_at_call 165;refine (He _ _ _ _).mono ?_;rintro e w' ⟨rfl,rfl⟩) | (go_at_call 108;refine (contains133_any _ _ _ _ (hL.alloc _) hn).mono ?_;rintro e w' ⟨rfl,rfl⟩))
     go_ret;exact ⟨Af (by rw [HV.out];simp),hB⟩
    ·have h4b:((kinds.length:Int) == rings*sec)=false:=by simpa using h4
     rw [h4b];have hne:((kinds.length:Int) != rings*sec)=true:=by simp [h4]
     clear h4 h4b;go_enter Tryz.func120,Tryz.ntmps120;go_wp2_with (go_at_call 165;refine (He _ _ _ _).mono ?_;rintro e w' ⟨rfl,rfl⟩);go_ret;exact ⟨Af (by simp),hB⟩
   ·have h3':inB sec 2 96=false:=by simpa using h3
    rw [h3'];go_enter Tryz.func120,Tryz.ntmps120;go_wp2_with (go_at_call 165;refine (He _ _ _ _).mono ?_;rintro e w' ⟨rfl,rfl⟩);go_ret;exact ⟨Af (by simp),hB⟩
  ·have h2':inB rings 1 24=false:=by simpa using h2
   rw [h2'];go_enter Tryz.func120,Tryz.ntmps120;go_wp2_with (go_at_call 165;refine (He _ _ _ _).mono ?_;rintro e w' ⟨rfl,rfl⟩);go_ret;exact ⟨Af (by simp),hB⟩
 ·have h1':inB eye 1 16=false:=by simpa using h1
  rw [h1'];go_enter Tryz.func120,Tryz.ntmps120;go_wp2_with (go_at_call 165;refine (He _ _ _ _).mono ?_;rintro e w' ⟨rfl,rfl⟩);go_ret;exact ⟨Af (by simp),hB⟩
end
section
def Jl (a b:Int):Int:=if a<b then -1 else if b<a then 1 else 0
theorem isNaN_any (a:Int) (w:World):Calls Tryz.prog 171 #[.int .i64 a] w fun e w'=>e=.returned (.bool false)/\w=w':=by
 go_enter Tryz.func171,Tryz.ntmps171;go_wp2_with fail;go_ret;exact ⟨Af (by simp),rfl⟩
theorem cmpI_any (a b:Int) (w:World):Calls Tryz.prog 129 #[.int .i64 a,.int .i64 b] w fun e w'=>e=.returned (.int .i64 (Jl a b))/\w=w':=by
 by_cases h1:a<b
 ·have HV:Hid (Jl a b = -1):=by simp [Hid,Jl,h1]
  go_enter Tryz.func129,Tryz.ntmps129;go_wp2_with (go_at_call 171;refine (isNaN_any _ _).mono ?_;rintro e w' ⟨rfl,rfl⟩);go_ret;exact ⟨by rw [HV.out];rfl,rfl⟩
 ·by_cases h2:b<a
  ·have HV:Hid (Jl a b=1):=by simp [Hid,Jl,h1,h2]
   go_enter Tryz.func129,Tryz.ntmps129;go_wp2_with (go_at_call 171;refine (isNaN_any _ _).mono ?_;rintro e w' ⟨rfl,rfl⟩);go_ret;exact ⟨by rw [HV.out];rfl,rfl⟩
  ·have HV:Hid (Jl a b=0):=by simp [Hid,Jl,h1,h2]
   go_enter Tryz.func129,Tryz.ntmps129;go_wp2_with (go_at_call 171;refine (isNaN_any _ _).mono ?_;rintro e w' ⟨rfl,rfl⟩);go_ret;exact ⟨by rw [HV.out];rfl,rfl⟩
def orV:List Int->Int
 | []=>0
 | x :: xs=>if x=0 then orV xs else x
theorem orV_hit:∀ (xs:List Int) (k:Nat) (hk:k<xs.length),(∀ j (h:j<xs.length),j<k->xs[j]=0)->xs[k]≠0->orV xs=xs[k]
 | x :: xs,0,_,_,h=>by simp at h;simp [orV,h]
 | x :: xs,k+1,hk,h0,h=>by
  have:=h0 0 (by simp) (by omega)
  simp at this;simp [orV,this];exact orV_hit xs k (by simpa using hk) (fun j hj hjk=>by have:=h0 (j+1) (by simpa using hj) (by omega);simpa using this) (by simpa using h)
theorem orV_none:∀ (xs:List Int),(∀ j (h:j<xs.length),xs[j]=0)->orV xs=0
 | [],_=>rfl
 | x :: xs,h0=>by
  have:=h0 0 (by simp)
  simp at this;simp [orV,this];exact orV_none xs (fun j hj=>by have:=h0 (j+1) (by simpa using hj);simpa using this)
theorem or_any (A:Option Addr) (c:Nat) (xs:List Int) (w:World) (hL:Ad w A (Ac xs)) (hn:xs.length<=1000) :
  Calls Tryz.prog 128 #[.slice A xs.length c] w fun e w'=>e=.returned (.int .i64 (orV xs))/\w=w':=by
 go_enter Tryz.func128,Tryz.ntmps128;go_wp2;go_loop [8] (fun i=>∃ k:Nat,k<=xs.length/\i=.int .i64 k/\Hid (∀ j (h:j<xs.length),j<k->xs[j]=0)) (fun i=>xs.length - (intOf i).toNat)
 case atStart=>exact ⟨0,Nat.zero_le _,rfl,fun j _ h=>absurd h (by omega)⟩
 case round =>
  obtain ⟨k,hk,rfl,hall⟩:=hrel
  by_cases hlt:k<xs.length
  ·obtain ⟨b',off,hA,hb',hc⟩:=hL.int (by omega)
   have c0:=hc k hlt;clear hc;rw [hA];clear hA;have HV:=Hd (fun j (hj:j<xs.length) (hjk:j<k+1) (hg:xs[k]=0)=>show xs[j]=0 by
    rcases Nat.lt_or_ge j k with h | h
    ·exact hall.out j hj h
    ·obtain rfl:j=k:=by omega
     exact hg)
   by_cases hb:xs[k]=0
   ·have HB:=Hd hb;have hne:(xs[k] != 0)=false:=by simp [hb]
    rw [hb] at c0;clear hb hne;go_wp2_with fail;go_round
    case rel=>exact ⟨k+1,by omega,by go_num,fun j hj hjk=>HV.out j hj hjk HB.out⟩
    case measure=>simp [intOf];omega
   ·have HB:=Hd hb;have hne:(xs[k] != 0)=true:=by simp [hb]
    clear hb;go_wp2_with fail;go_ret;exact ⟨Cb (orV_hit xs k hlt hall.out HB.out).symm,rfl⟩
  ·have:k=xs.length:=by omega
   subst this;go_wp2;go_ret;exact ⟨Cb (orV_none xs (fun j hj=>hall.out j hj hj)).symm,rfl⟩
def cutV (m:Mv):Int:=if m.cut then 1 else 0
def cmpMv (a b:Mv):Int:=orV [Jl a.out b.out,Jl a.side b.side,Jl (cutV a) (cutV b)]
def mvV (m:Mv):Value:=.agg #[.int .i64 m.out,.int .i64 m.side,.bool m.cut]
theorem cut1_any (mo ms:Int) (mc:Bool) (w:World):Calls Tryz.prog 199 #[.agg #[.int .i64 mo,.int .i64 ms,.bool mc]] w fun e w'=>e=.returned (.int .i64 (cutV ⟨mo,ms,mc⟩))/\Below w.heap.size w w':=by
 have hB:Below w.heap.size w (w.alloc (.cells #[.int .i64 mo,.int .i64 ms,.bool mc] 247)):=Ba;cases mc
 ·go_enter Tryz.func199,Tryz.ntmps199;go_wp2_with fail;go_ret;exact ⟨rfl,hB⟩
 ·go_enter Tryz.func199,Tryz.ntmps199;go_wp2_with fail;go_ret;exact ⟨rfl,hB⟩
theorem compare_any (a b:Mv) (w:World):Calls Tryz.prog 168 #[mvV a,mvV b] w fun e w'=>e=.returned (.int .i64 (cmpMv a b))/\Below w.heap.size w w':=by
 obtain ⟨ao,az,ac⟩:=a;obtain ⟨bo,bs,bc⟩:=b;have HV:Hid (cmpMv ⟨ao,az,ac⟩ ⟨bo,bs,bc⟩=orV [Jl ao bo,Jl az bs,Jl (cutV ⟨ao,az,ac⟩) (cutV ⟨bo,bs,bc⟩)]):=rfl;unfold mvV;obtain ⟨W,hW⟩:∃ W,(w.alloc (.cells #[.int .i64 ao,.int .i64 az,.bool ac] 247)).alloc (.cells #[.int .i64 bo,.int .i64 bs,.bool bc] 247)=W:=⟨_,rfl⟩;have hbW:Below w.heap.size w W:=by rw [<- hW];exact Ba.alloc (by simp) _
 have Y:Bk W w.heap.size 247 #[.int .i64 ao,.int .i64 az,.bool ac]:=by rw [<- hW];exact (Aa rfl).alloc _
 have Z:Bk W (w.heap.size+1) 247 #[.int .i64 bo,.int .i64 bs,.bool bc]:=by rw [<- hW];exact Aa (by simp)
 have y0:=Y.cell 0;have y1:=Y.cell 1;have y2:=Y.cell 2;have z0:=Z.cell 0;have z1:=Z.cell 1;have z2:=Z.cell 2;simp at y0 y1 y2 z0 z1 z2;have HW:=Hd hW;clear hW Y Z;go_enter Tryz.func168,Tryz.ntmps168;go_upto_region 2 with fail
 rw [HW.out];clear HW;refine By 17 (by kernel_rfl) (by kernel_rfl) (fun _ _ d _ _ h=>by cases d<;>exact h) ?_
 simp only [List.take_succ_cons,List.take_zero,List.drop_succ_cons,List.drop_zero];replace y0:=fun x:Ext W=>Ag x.bel y0
 replace y1:=fun x:Ext W=>Ag x.bel y1
 replace y2:=fun x:Ext W=>Ag x.bel y2
 replace z0:=fun x:Ext W=>Ag x.bel z0
 replace z1:=fun x:Ext W=>Ag x.bel z1
 replace z2:=fun x:Ext W=>Ag x.bel z2
 repeat (go_big_quiet_step (first | (go_at_call 129;exact ext_same (cmpI_any _ _ _)) | (go_at_call 199;exact Cj (cut1_any _ _ _ _))))
 refine wpQuiet_nil ?_;rintro _ ⟨y,rfl⟩;clear y0 y1 y2 z0 z1 z2;have hb2:=y.bel;generalize y.w=w2 at hb2 ⊢;have hB:=hbW.trans (hb2.mono hbW.size);generalize Jl ao bo=q0 at *;generalize Jl az bs=q1 at *;generalize Jl (cutV ⟨ao,az,ac⟩) (cutV ⟨bo,bs,bc⟩)=q2 at *;have hR:Ad (w2.alloc (.cells #[.int .i64 q0,.int .i64 q1,.int .i64 q2] 3)) (some ⟨w2.heap.size,0,none⟩) (Ac [q0,q1,q2]):=fun _=>⟨w2.heap.size,0,rfl,by simp,fun j u hu=>by
  have:=three_at w2 (.int .i64 q0) (.int .i64 q1) (.int .i64 q2) 3 w2.heap.size rfl j u hu
  rwa [De] at this⟩
 have HO:=Hd (or_any _ 3 [q0,q1,q2] _ hR (by simp))
 clear hR;go_wp2_with (go_at_call 128;refine (HO.out).mono ?_;rintro e w' ⟨rfl,rfl⟩);go_ret;exact ⟨by rw [HV.out];rfl,hB.alloc hB.size _⟩
end
section
attribute [local go_sem ↓] Ei Eh
def mv0:Mv:=⟨0,0,false⟩
def okAt (l:List Mv) (k:Nat):Bool :=
 decide (max (l.getD k mv0).out (l.getD k mv0).side<=1) && decide (-1<=min (l.getD k mv0).out (l.getD k mv0).side) && (decide (k=0) || decide (cmpMv (l.getD (k - 1) mv0) (l.getD k mv0)<0))
def Gj (l:List Mv):Bool:=(List.range l.length).all (okAt l) && decide (1<=l.length) && decide (l.length<=3)
theorem driven_bad {l:List Mv} {k:Nat} (hk:k<l.length) (h:okAt l k=false):Gj l=false:=by
 have:(List.range l.length).all (okAt l)=false:=by
  rw [List.all_eq_false];exact ⟨k,List.mem_range.2 hk,by simp [h]⟩
 simp [Gj,this]
theorem driven_good {l:List Mv} (h:∀ k,k<l.length->okAt l k=true):Gj l=(decide (1<=l.length) && decide (l.length<=3)):=by
 have:(List.range l.length).all (okAt l)=true:=by
  rw [List.all_eq_true];exact fun k hk=>h k (List.mem_range.1 hk)
 simp [Gj,this]
theorem driven_is {l:List Mv} (h:Gj l=true):1<=l.length/\l.length<=3/\∀ m∈l,-1<=m.out/\m.out<=1 /\ -1<=m.side/\m.side<=1:=by
 simp only [Gj,Bool.and_eq_true,decide_eq_true_eq,List.all_eq_true] at h;refine ⟨h.1.2,h.2,fun m hm=>?_⟩
 obtain ⟨k,hk,rfl⟩:=List.getElem_of_mem hm;have:=h.1.1 k (List.mem_range.2 hk);simp only [okAt,Bool.and_eq_true,decide_eq_true_eq,Aj l mv0 hk] at this;omega
theorem mv_cells {w:World} {A:Option Addr} {l:List Mv} (h:Ad w A (Gz l)) (h0:0<l.length) :
  ∃ b off,A=some ⟨b,off,none⟩/\b<w.heap.size/\∀ k,k<l.length->w.cell? ⟨b,off+k*3,none⟩=some (.int .i64 (l.getD k mv0).out)/\w.cell? ⟨b,off+k*3+1,none⟩=some (.int .i64 (l.getD k mv0).side)/\w.cell? ⟨b,off+k*3+2,none⟩=some (.bool (l.getD k mv0).cut):=by
 obtain ⟨b,off,h1,h2,h3⟩:=mv_row h h0;exact ⟨b,off,h1,h2,fun k hk=>by rw [Aj _ _ hk];exact h3 k hk⟩
theorem driven_any (A:Option Addr) (c:Nat) (l:List Mv) (w:World) (hL:Ad w A (Gz l)) (hn:l.length<=1000) :
  Calls Tryz.prog 121 #[.slice A l.length c] w fun e w'=>e=.returned (.bool (Gj l))/\Below w.heap.size w w':=by
 have HL:=Hd hL;clear hL;have hB0:=Below.refl w.heap.size w;go_enter Tryz.func121,Tryz.ntmps121;go_wp2_with fail;go_loopw [7] (fun i wr=>∃ k:Nat,k<=l.length/\i=.int .i64 k/\Below w.heap.size w wr/\Hid (∀ j,j<k->okAt l j=true)) (fun i _=>l.length - (intOf i).toNat)
 case atStart=>exact ⟨0,Nat.zero_le _,rfl,hB0,fun j h=>absurd h (by omega)⟩
 case round =>
  obtain ⟨k,hk,rfl,hBr,hall⟩:=hrel
  by_cases hlt:k<l.length
  ·have hLr:=HL.out.below hBr;obtain ⟨b5,o5,hA,hb5,hc5⟩:=mv_cells hLr (by omega)
   obtain ⟨c0,c1,c2⟩:=hc5 k hlt;have HC5:=Hd hc5;have HA:=Hd hA;have HK:Hid (okAt l k=(decide (max (l.getD k mv0).out (l.getD k mv0).side<=1) && decide (-1<=min (l.getD k mv0).out (l.getD k mv0).side) && (decide (k=0) || decide (cmpMv (l.getD (k - 1) mv0) (l.getD k mv0)<0)))):=rfl
   have HALL:Hid (okAt l k=true->∀ j,j<k+1->okAt l j=true):=fun hg j hj=>by
    rcases Nat.lt_or_ge j k with h | h
    ·exact hall.out j h
    ·obtain rfl:j=k:=by omega
     exact hg
   have HBAD:Hid (okAt l k=false->Gj l=false):=fun h=>driven_bad hlt h
   clear hc5 hLr hall hB0;rw [hA];clear hA;generalize hmk:l.getD k mv0=mk at *;have HMK:=Hd hmk;clear hmk;obtain ⟨mo,ms,mc⟩:=mk;simp only at c0 c1 c2 HK;obtain ⟨W,hW⟩:∃ W,wr.alloc (.cells #[.int .i64 mo,.int .i64 ms,.bool mc] 247)=W:=⟨_,rfl⟩;have hbW:Below wr.heap.size wr W:=by rw [<- hW];exact Ba
   have Y:Bk W wr.heap.size 247 #[.int .i64 mo,.int .i64 ms,.bool mc]:=by rw [<- hW];exact Aa rfl
   have y0:=Y.cell 0;have y1:=Y.cell 1;have y2:=Y.cell 2;simp at y0 y1 y2;have HW:=Hd hW;clear hW Y;have hBW:=hBr.trans (hbW.mono hBr.size);go_upto_region 4 with fail
   rw [HW.out];clear HW c0 c1 c2;replace y0:=fun x:Ext W=>Ag x.bel y0
   replace y1:=fun x:Ext W=>Ag x.bel y1
   replace y2:=fun x:Ext W=>Ag x.bel y2
   by_cases h1:max mo ms > 1
   ·have p1:decide (max mo ms > 1)=true:=decide_eq_true h1;have HK1:Hid (okAt l k=false):=by rw [Hid,HK.out,decide_eq_false (by omega)];rfl
    clear h1;refine Bg (by kernel_rfl) (by kernel_rfl) ?_
    repeat (go_big_quiet_step (fail))
    refine wpQuiet_nil ?_;rintro _ ⟨y,rfl⟩;clear y0 y1 y2 p1;have hb2:=y.bel;generalize y.w=w2 at hb2 ⊢;have hB2:=hBW.trans (hb2.mono hBW.size);clear hb2;go_wp2_with fail;go_ret;exact ⟨Af (HBAD.out HK1.out).symm,hB2⟩
   ·have p1:decide (max mo ms > 1)=false:=decide_eq_false h1
    by_cases h2:min mo ms < -1
    ·have p2:decide (min mo ms < -1)=true:=decide_eq_true h2;have HK1:Hid (okAt l k=false):=by rw [Hid,HK.out,decide_eq_false (show ¬ -1<=min mo ms by omega)];simp
     clear h1 h2;refine Bg (by kernel_rfl) (by kernel_rfl) ?_
     repeat (go_big_quiet_step (fail))
     refine wpQuiet_nil ?_;rintro _ ⟨y,rfl⟩;clear y0 y1 y2 p1 p2;have hb2:=y.bel;generalize y.w=w2 at hb2 ⊢;have hB2:=hBW.trans (hb2.mono hBW.size);clear hb2;go_wp2_with fail;go_ret;exact ⟨Af (HBAD.out HK1.out).symm,hB2⟩
    ·have p2:decide (min mo ms < -1)=false:=decide_eq_false h2;have HK2:Hid (okAt l k=(decide (k=0) || decide (cmpMv (l.getD (k - 1) mv0) ⟨mo,ms,mc⟩<0))):=by rw [Hid,HK.out,decide_eq_true (show max mo ms<=1 by omega),decide_eq_true (show -1<=min mo ms by omega)];rfl
     clear h1 h2 HK
     by_cases h3:k=0
     ·have p3:decide (0<k)=false:=decide_eq_false (by omega)
      have HK1:Hid (okAt l k=true):=by rw [Hid,HK2.out,decide_eq_true h3];rfl
      have h3':k<1:=by omega
      clear h3;refine Bg (by kernel_rfl) (by kernel_rfl) ?_
      repeat (go_big_quiet_step (fail))
      refine wpQuiet_nil ?_;rintro _ ⟨y,rfl⟩;clear y0 y1 y2 p1 p2 p3;have hb2:=y.bel;generalize y.w=w2 at hb2 ⊢;have hB2:=hBW.trans (hb2.mono hBW.size);clear hb2;go_wp2_with fail;go_roundw
      case rel=>exact ⟨k+1,by omega,by go_num,hB2,HALL.out HK1.out⟩
      case measure=>simp [intOf];omega
     ·have p3:decide (0<k)=true:=decide_eq_true (by omega)
      obtain ⟨d0,d1,d2⟩:=HC5.out (k - 1) (by omega)
      replace d0:=Ag hbW d0;replace d1:=Ag hbW d1;replace d2:=Ag hbW d2;have hwk:=IntWalk.i64_in ((k:Int) - 1) (by omega)
      have t1:((k:Int) - 1).toNat=k - 1:=by omega
      have q1:(k:Int) - 1<l.length:=by omega
      have q2:0<=(k:Int) - 1:=by omega
      have q3:1<=k:=by omega
      have HK3:Hid (okAt l k=decide (cmpMv (l.getD (k - 1) mv0) ⟨mo,ms,mc⟩<0)):=by rw [Hid,HK2.out,decide_eq_false h3];rfl
      clear h3 HK2;generalize l.getD (k - 1) mv0=mj at *;obtain ⟨jo,js,jc⟩:=mj;simp only at d0 d1 d2;have HCM:=Hd (fun x:Ext W=>compare_any ⟨jo,js,jc⟩ ⟨mo,ms,mc⟩ x.w)
      unfold mvV at HCM;replace d0:=fun x:Ext W=>Ag x.bel d0
      replace d1:=fun x:Ext W=>Ag x.bel d1
      replace d2:=fun x:Ext W=>Ag x.bel d2
      generalize cmpMv ⟨jo,js,jc⟩ ⟨mo,ms,mc⟩=cv at *
      by_cases h4:cv>=0
      ·have p4:decide (cv>=0)=true:=decide_eq_true h4;have HK1:Hid (okAt l k=false):=by rw [Hid,HK3.out,decide_eq_false (by omega)]
       clear h4;refine Bg (by kernel_rfl) (by kernel_rfl) ?_
       repeat (go_big_quiet_step ((go_at_call 168;exact Cj (HCM.out _))))
       refine wpQuiet_nil ?_;rintro _ ⟨y,rfl⟩;clear y0 y1 y2 p1 p2 p3 p4 d0 d1 d2 hwk t1 HCM;have hb2:=y.bel;generalize y.w=w2 at hb2 ⊢;have hB2:=hBW.trans (hb2.mono hBW.size);clear hb2;go_wp2_with fail;go_ret;exact ⟨Af (HBAD.out HK1.out).symm,hB2⟩
      ·have p4:decide (cv>=0)=false:=decide_eq_false h4;have HK1:Hid (okAt l k=true):=by rw [Hid,HK3.out,decide_eq_true (by omega)]
       clear h4;refine Bg (by kernel_rfl) (by kernel_rfl) ?_
       repeat (go_big_quiet_step ((go_at_call 168;exact Cj (HCM.out _))))
       refine wpQuiet_nil ?_;rintro _ ⟨y,rfl⟩;clear y0 y1 y2 p1 p2 p3 p4 d0 d1 d2 hwk t1 HCM;have hb2:=y.bel;generalize y.w=w2 at hb2 ⊢;have hB2:=hBW.trans (hb2.mono hBW.size);clear hb2;go_wp2_with fail;go_roundw
       case rel=>exact ⟨k+1,by omega,by go_num,hB2,HALL.out HK1.out⟩
       case measure=>simp [intOf];omega
  ·have:k=l.length:=by omega
   subst this;have HG:=Hd (driven_good (fun j hj=>hall.out j hj))
   by_cases h1:1<=l.length
   ·go_wp2_with fail;go_ret;exact ⟨Af (by rw [HG.out];first | rfl | (simp<;>omega) | grind),hBr⟩
   ·go_wp2_with fail;go_ret;exact ⟨Af (by rw [HG.out];first | rfl | (simp<;>omega) | grind),hBr⟩
end
section
attribute [local go_sem ↓] Ei Eh
def Flr.pr (f:Flr) (z:Hc):Value :=
 .agg #[.int .i64 f.eye,.int .i64 f.R,.int .i64 f.S,.slice z.A1 f.bed.length z.c1,.int .i64 f.eye,.int .i64 f.R,.int .i64 f.S,.slice z.A2 f.run.length z.c2,.slice z.A3 f.drive.length z.c3]
structure PrAt (w:World) (f:Flr) (z:Hc):Prop where
 bed:Ad w z.A1 (Ac f.bed)
 run:Ad w z.A2 (Ac f.run)
 drv:Ad w z.A3 ((List.range f.drive.length).map (drCell f z))
 row:∀ i,i<f.drive.length->Ad w (z.dr.getD i (none,0)).1 (Gz (f.drive.getD i []))
theorem PrAt.below {w w':World} {f:Flr} {z:Hc} (h:PrAt w f z) (hb:Below w.heap.size w w'):PrAt w' f z :=
 ⟨h.bed.below hb,h.run.below hb,h.drv.below hb,fun i hi=>(h.row i hi).below hb⟩
structure Flr.Pre (f:Flr):Prop where
 e0:1<=f.eye
 e1:f.eye<=16
 r0:1<=f.R
 r1:f.R<=4
 s0:2<=f.S
 s1:f.S<=8
 bl:f.bed.length=f.R*f.S
 rl:f.run.length=f.R*f.S
 bk:∀ x∈f.bed,0<=x/\x<=2
 rk:∀ x∈f.run,0<=x/\x<=2
 dn:f.drive.length<=20
 dm:∀ l∈f.drive,l.length<=10
def drvOk (f:Flr):Bool:=decide (f.drive.length=9) && f.drive.all Gj
theorem Flr.Pre.ok {f:Flr} (h:f.Pre) (hd:drvOk f=true):f.Ok:=by
 simp only [drvOk,Bool.and_eq_true,decide_eq_true_eq,List.all_eq_true] at hd;exact ⟨h.r0,h.r1,h.s0,h.s1,h.bl,h.rl,h.bk,h.rk,hd.1,fun l hl=>driven_is (hd.2 l hl)⟩
theorem PrAt.dcell {w:World} {f:Flr} {z:Hc} (h:PrAt w f z) (h0:0<f.drive.length):∃ b off,z.A3=some ⟨b,off,none⟩/\b<w.heap.size/\∀ k,k<f.drive.length->w.cell? ⟨b,off+k,none⟩=some (drCell f z k):=by
 obtain ⟨b,off,h1,h2,h3⟩:=h.drv (by simpa using h0)
 exact ⟨b,off,h1,h2,fun k hk=>h3 k _ (by simp [hk])⟩
def drCells (f:Flr) (z:Hc) (k:Nat):Array Value:=(f.head z ++ (List.range 9).map (fun i=>if i<k then drCell f z i else .slice none 0 0)).toArray
theorem drCells_set (f:Flr) (z:Hc) (k:Nat) (hk:k<9):(drCells f z k).setIfInBounds (11+k) (drCell f z k)=drCells f z (k+1):=by
 have:k=0\/k=1\/k=2\/k=3\/k=4\/k=5\/k=6\/k=7\/k=8:=by omega
 rcases this with rfl | rfl | rfl | rfl | rfl | rfl | rfl | rfl | rfl<;>rfl
def OpenP (f:Flr) (z:Hc) (w:World) (e:Ending) (w':World):Prop :=
 Below w.heap.size w w'/\((drvOk f=true/\∃ b,w.heap.size<=b/\e=.returned (.tuple #[.pointer (some ⟨b,0,none⟩),.int .i64 0])/\Hu w' b f z)\/(drvOk f=false/\e=.returned (.tuple #[.pointer none,.int .i64 20])))
theorem fac_of {eye:Int} {R S:Nat} {l:List Int} (h0:1<=eye/\eye<=16) (h1:1<=R/\R<=4) (h2:2<=S/\S<=8) (h3:l.length=R*S) (h4:∀ x∈l,0<=x/\x<=2):(Fac.mk eye R S l).ok=true:=by
 simp only [Fac.ok,inB,Bool.and_eq_true,decide_eq_true_eq,beq_iff_eq,List.all_eq_true];exact ⟨⟨⟨⟨h0,by omega⟩,by omega⟩,by rw [h3];simp⟩,h4⟩
theorem open_any (f:Flr) (z:Hc) (w:World) (hp:PrAt w f z) (hpre:f.Pre):Calls Tryz.prog 78 #[f.pr z] w (OpenP f z w):=by
 have hlen:f.bed.length<=32/\f.run.length<=32:=by
  have:=hpre.bl;have:=hpre.rl;have:f.R*f.S<=4*8:=Nat.mul_le_mul hpre.r1 hpre.s1;omega
 have HV1:=Hd (fun (X:World) (h:Below w.heap.size w X)=>Jh ⟨f.eye,f.R,f.S,f.bed⟩ z.A1 z.c1 X (hp.bed.below h) (by simp only;omega))
 have HV2:=Hd (fun (X:World) (h:Below w.heap.size w X)=>Jh ⟨f.eye,f.R,f.S,f.run⟩ z.A2 z.c2 X (hp.run.below h) (by simp only;omega))
 rw [fac_of ⟨hpre.e0,hpre.e1⟩ ⟨hpre.r0,hpre.r1⟩ ⟨hpre.s0,hpre.s1⟩ hpre.bl hpre.bk] at HV1;rw [fac_of ⟨hpre.e0,hpre.e1⟩ ⟨hpre.r0,hpre.r1⟩ ⟨hpre.s0,hpre.s1⟩ hpre.rl hpre.rk] at HV2;unfold Fac.val at HV1 HV2;simp only at HV1 HV2;have HST:=Hd (fun (b:Nat) (X:World) (hf:Hu X b f z) (hok:f.Ok)=>states_any b f z X hf hok)
 have HP:=Hd hp;have HPRE:=Hd hpre;unfold Flr.pr;obtain ⟨W,hW⟩:∃ W,w.alloc (.cells #[.int .i64 f.eye,.int .i64 f.R,.int .i64 f.S,.slice z.A1 f.bed.length z.c1,.int .i64 f.eye,.int .i64 f.R,.int .i64 f.S,.slice z.A2 f.run.length z.c2,.slice z.A3 f.drive.length z.c3] 27)=W:=⟨_,rfl⟩;have hbW:Below w.heap.size w W:=by rw [<- hW];exact Ba
 have X:=(show Bk W w.heap.size 27 #[.int .i64 f.eye,.int .i64 f.R,.int .i64 f.S,.slice z.A1 f.bed.length z.c1,.int .i64 f.eye,.int .i64 f.R,.int .i64 f.S,.slice z.A2 f.run.length z.c2,.slice z.A3 f.drive.length z.c3] by rw [<- hW];exact Aa rfl)
 have hsW:W.heap.size=w.heap.size+1:=by rw [<- hW];simp
 have x0:=X.cell 0;have x1:=X.cell 1;have x2:=X.cell 2;have x3:=X.cell 3;have x4:=X.cell 4;have x5:=X.cell 5;have x6:=X.cell 6;have x7:=X.cell 7;have x8:=X.cell 8;simp at x0 x1 x2 x3 x4 x5 x6 x7 x8;have HW:=Hd hW;clear hW hp hpre;have hlt:=X.lt;go_enter Tryz.func78,Tryz.ntmps78;go_upto_region 1 with fail
 rw [HW.out];clear HW;go_cut [4,5] from 9 to 12 (fun vb vr wx=>∃ p q:Nat,vb=.pointer (some ⟨p,0,none⟩)/\vr=.pointer (some ⟨q,0,none⟩)/\Bk wx w.heap.size 27 #[.int .i64 f.eye,.int .i64 f.R,.int .i64 f.S,.slice z.A1 f.bed.length z.c1,.int .i64 f.eye,.int .i64 f.R,.int .i64 f.S,.slice z.A2 f.run.length z.c2,.slice z.A3 f.drive.length z.c3] /\
  Bk wx p 24 #[.int .i64 f.eye,.int .i64 f.R,.int .i64 f.S,.slice z.A1 f.bed.length z.c1]/\Bk wx q 24 #[.int .i64 f.eye,.int .i64 f.R,.int .i64 f.S,.slice z.A2 f.run.length z.c2]/\Below w.heap.size w wx)
 case first =>
  have HX:=Hd X;have HB:=Hd hbW;clear X hsW hbW HP HPRE HV1 HV2 HST hlen;go_region
  all_goals
   go_wp2_with fail;go_meet
   case rel =>
    have X:=HX.out;have hb:=HB.out
    first
    | exact ⟨_,_,rfl,rfl,((X.alloc _).alloc _).drew,(Bk.new _ _ _).drew,((Aa rfl).alloc _).drew,((hb.alloc hb.size _).alloc (by have:=hb.size;simp;omega) _).drew⟩
    | exact ⟨_,_,rfl,rfl,((X.alloc _).alloc _).drew,((Aa rfl).alloc _).drew,(Aa (by simp)).drew,((hb.alloc hb.size _).alloc (by have:=hb.size;simp;omega) _).drew⟩
    | exact ⟨_,_,rfl,rfl,((X.alloc _).alloc _).drew,(Aa (by simp)).drew,((Aa rfl).alloc _).drew,((hb.alloc hb.size _).alloc (by have:=hb.size;simp;omega) _).drew⟩
 case rest =>
  obtain ⟨p,q,rfl,rfl,X1,P1,Q1,hb1⟩:=hcut;clear x0 x1 x2 x3 x4 x5 x6 x7 x8 X hsW hlt;have x0:=X1.cell 0;have x1:=X1.cell 1;have x2:=X1.cell 2;have x3:=X1.cell 3;have x4:=X1.cell 4;have x5:=X1.cell 5;have x6:=X1.cell 6;have x7:=X1.cell 7;have x8:=X1.cell 8;have p0:=P1.cell 0;have p1:=P1.cell 1;have p2:=P1.cell 2;have p3:=P1.cell 3;simp at x0 x1 x2 x3 x4 x5 x6 x7 x8 p0 p1 p2 p3;go_upto_region 3 with fail
  clear x0 x1 x2 x3 x4 x5 x6 x7 p0 p1 p2 p3 x8;generalize hgg:wc.heap.size=g at *;have F0:Bk (wc.alloc (.cells #[.int .i64 f.eye,.int .i64 f.R,.int .i64 f.S,.slice z.A1 f.bed.length z.c1,.int .i64 f.eye,.int .i64 f.R,.int .i64 f.S,.slice z.A2 f.run.length z.c2,.slice z.A3 f.drive.length z.c3,.int .i64 f.R,.int .i64 f.S,.slice none 0 0,.slice none 0 0,.slice none 0 0,.slice none 0 0,.slice none 0 0,.slice none 0 0,.slice none 0 0,.slice none 0 0,.slice none 0 0] 181)) g 181 _:=Aa hgg;replace X1:=X1.alloc (.cells #[.int .i64 f.eye,.int .i64 f.R,.int .i64 f.S,.slice z.A1 f.bed.length z.c1,.int .i64 f.eye,.int .i64 f.R,.int .i64 f.S,.slice z.A2 f.run.length z.c2,.slice z.A3 f.drive.length z.c3,.int .i64 f.R,.int .i64 f.S,.slice none 0 0,.slice none 0 0,.slice none 0 0,.slice none 0 0,.slice none 0 0,.slice none 0 0,.slice none 0 0,.slice none 0 0,.slice none 0 0] 181);replace P1:=P1.alloc (.cells #[.int .i64 f.eye,.int .i64 f.R,.int .i64 f.S,.slice z.A1 f.bed.length z.c1,.int .i64 f.eye,.int .i64 f.R,.int .i64 f.S,.slice z.A2 f.run.length z.c2,.slice z.A3 f.drive.length z.c3,.int .i64 f.R,.int .i64 f.S,.slice none 0 0,.slice none 0 0,.slice none 0 0,.slice none 0 0,.slice none 0 0,.slice none 0 0,.slice none 0 0,.slice none 0 0,.slice none 0 0] 181);replace Q1:=Q1.alloc (.cells #[.int .i64 f.eye,.int .i64 f.R,.int .i64 f.S,.slice z.A1 f.bed.length z.c1,.int .i64 f.eye,.int .i64 f.R,.int .i64 f.S,.slice z.A2 f.run.length z.c2,.slice z.A3 f.drive.length z.c3,.int .i64 f.R,.int .i64 f.S,.slice none 0 0,.slice none 0 0,.slice none 0 0,.slice none 0 0,.slice none 0 0,.slice none 0 0,.slice none 0 0,.slice none 0 0,.slice none 0 0] 181);have hgw:w.heap.size<=g:=by have:=hb1.size;omega
  replace hb1:=hb1.alloc (by omega) (.cells #[.int .i64 f.eye,.int .i64 f.R,.int .i64 f.S,.slice z.A1 f.bed.length z.c1,.int .i64 f.eye,.int .i64 f.R,.int .i64 f.S,.slice z.A2 f.run.length z.c2,.slice z.A3 f.drive.length z.c3,.int .i64 f.R,.int .i64 f.S,.slice none 0 0,.slice none 0 0,.slice none 0 0,.slice none 0 0,.slice none 0 0,.slice none 0 0,.slice none 0 0,.slice none 0 0,.slice none 0 0] 181)
  generalize wc.alloc _=V at *;clear hgg;have HXW:=Hd X1;have p0:=P1.cell 0;have p1:=P1.cell 1;have p2:=P1.cell 2;have p3:=P1.cell 3;simp at p0 p1 p2 p3;go_wp2_with fail;refine (HV1.out V hb1).mono ?_;rintro e V2 ⟨rfl,hb2⟩;have hb12:=hb1.trans (hb2.mono hb1.size);replace X1:=X1.keep hb2;replace F0:=F0.keep hb2;replace P1:=P1.keep hb2;replace Q1:=Q1.keep hb2;clear p0 p1 p2 p3 HXW hb1 hb2;have q0:=Q1.cell 0;have q1:=Q1.cell 1;have q2:=Q1.cell 2;have q3:=Q1.cell 3;simp at q0 q1 q2 q3;go_wp2_with fail;refine (HV2.out V2 hb12).mono ?_;rintro e V3 ⟨rfl,hb3⟩;have hb13:=hb12.trans (hb3.mono hb12.size);replace X1:=X1.keep hb3;replace F0:=F0.keep hb3;replace P1:=P1.keep hb3;replace Q1:=Q1.keep hb3;clear q0 q1 q2 q3 hb12 hb3 HV1 HV2 hbW;have p0:=P1.cell 0;have p1:=P1.cell 1;have p2:=P1.cell 2;have q0:=Q1.cell 0;have q1:=Q1.cell 1;have q2:=Q1.cell 2;have x8:=X1.cell 8;simp at p0 p1 p2 q0 q1 q2 x8;have HBAD:Hid (f.drive.length≠9->drvOk f=false):=fun h=>by simp [drvOk,h]
  by_cases h9:f.drive.length=9
  ·have hne:((f.drive.length:Int) != 9)=false:=by simp [h9]
   have F:Bk V3 g 181 (drCells f z 0):=by
    rw [h9] at F0;exact F0
   have H9:=Hd h9;have h9a:f.drive.length<=9:=by omega
   have h9b:9<=f.drive.length:=by omega
   clear h9 F0 HBAD P1 Q1;go_upto_region 5 with fail
   clear p0 p1 p2 q0 q1 q2 hne;go_wp2_with fail;go_loopw [58] (fun i wr=>∃ k:Nat,k<=9/\i=.int .i64 k/\Bk wr g 181 (drCells f z k)/\Below w.heap.size w wr/\Hid (∀ j,j<k->Gj (f.drive.getD j [])=true)) (fun i _=>9 - (intOf i).toNat)
   case atStart=>exact ⟨0,Nat.zero_le _,rfl,F,hb13,fun j h=>absurd h (by omega)⟩
   case round =>
    obtain ⟨k,hk,rfl,F,hB,hall⟩:=hrel;clear x8 hb13
    by_cases hlt:k<9
    ·have hltd:k<f.drive.length:=by omega
     have hkI:(k:Int)<f.drive.length:=by omega
     obtain ⟨b5,o5,hA,hb5,hc5⟩:=(HP.out.below hB).dcell (by omega)
     have c0:=hc5 k hltd;clear hc5;rw [hA];clear hA;have HG:Hid (Gj (f.drive.getD k [])=true->∀ j,j<k+1->Gj (f.drive.getD j [])=true):=fun hg j hj=>by
      rcases Nat.lt_or_ge j k with h | h
      ·exact hall.out j h
      ·obtain rfl:j=k:=by omega
       exact hg
     have HBD:Hid (Gj (f.drive.getD k [])=false->drvOk f=false):=fun h=>by
      have:f.drive.all Gj=false:=by
       rw [List.all_eq_false];exact ⟨f.drive.getD k [],Cg [] hltd,by rw [h];simp⟩
      simp [drvOk,this]
     have HD:=Hd (driven_any (z.dr.getD k (none,0)).1 (z.dr.getD k (none,0)).2 (f.drive.getD k []) wr ((HP.out.below hB).row k hltd) (by have:=HPRE.out.dm _ (Cg [] hltd);omega))
     have HS:Hid (∀ W:World,Bk W g 181 (drCells f z k)->Bk (W.setCell ⟨g,11+k,none⟩ (.slice (z.dr.getD k (none,0)).1 (f.drive.getD k []).length (z.dr.getD k (none,0)).2)) g 181 (drCells f z (k+1))):=fun W hW=>by
      rw [<- drCells_set f z k hlt];exact hW.put (11+k) _
     have HC:Hid (∃ v,(drCells f z k)[11+k]?=some v):=by
      have:11+k<(drCells f z k).size:=by simp [drCells,Flr.head];omega
      exact ⟨_,Array.getElem?_eq_getElem this⟩
     unfold drCell at c0;clear hall;generalize (z.dr.getD k (none,0)).1=A at *;generalize (z.dr.getD k (none,0)).2=cc at *;generalize f.drive.getD k []=l at *;cases hd:Gj l
     ·rw [hd] at HD;have HQ:=Hd (HBD.out hd);clear hd HBD HG;go_wp2_with (go_at_call 121;refine (HD.out).mono ?_;rintro e w5 ⟨rfl,hb5⟩);go_ret2;exact ⟨hB.trans (hb5.mono hB.size),.inr ⟨HQ.out,rfl⟩⟩
     ·rw [hd] at HD;have HQ:=Hd (HG.out hd);clear hd HBD HG;go_upto_region 10 with (go_at_call 121;refine (HD.out).mono ?_;rintro e w5 ⟨rfl,hb5⟩)
      have F5:=F.keep hb5;have hB5:=hB.trans (hb5.mono hB.size);have HF6:=Hd (HS.out w5 F5);have HB6:=Hd (hB5.setCell (p:=⟨g,11+k,none⟩) (by simpa using hgw) (.slice A l.length cc))
      obtain ⟨v5,hv5⟩:=HC.out;have f0:=F5.cell (11+k);rw [hv5] at f0;have f1:=F5.fz (11+k);have f2:=F5.lt;clear hv5 hb5 HS HC HD F F5 hB hB5 c0;go_wp2_with fail;go_roundw
      case rel=>exact ⟨k+1,by omega,by go_num,HF6.out,HB6.out,HQ.out⟩
      case measure=>simp [intOf];omega
    ·obtain rfl:k=9:=by omega
     have HD1:drvOk f=true:=by
      simp only [drvOk,Bool.and_eq_true,decide_eq_true_eq,List.all_eq_true];refine ⟨H9.out,fun l hl=>?_⟩
      obtain ⟨j,hj,rfl⟩:=List.getElem_of_mem hl;have:=hall.out j (by omega)
      rwa [Aj _ _ hj] at this
     have hfl:Hu wr g f z:=⟨F,(HP.out.below hB).bed,(HP.out.below hB).run,fun i hi=>(HP.out.below hB).row i (by omega)⟩
     have hok:=HPRE.out.ok HD1;have HS:=Hd (HST.out g wr hfl hok);have hle:f.R*f.S*f.S<=256:=Nat.mul_le_mul (Nat.mul_le_mul hok.r1 hok.s1) hok.s1;have HD1:=Hd HD1;have HFL:=Hd hfl;clear hfl hok F hall HST;generalize f.R * f.S * f.S=ns at *;go_wp2_with (go_at_call 122;refine (HS.out).mono ?_;rintro e w5 ⟨rfl,hb5⟩);go_ret2;exact ⟨hB.trans (hb5.mono hB.size),.inl ⟨HD1.out,g,hgw,rfl,HFL.out.below hb5⟩⟩
  ·have hne:((f.drive.length:Int) != 9)=true:=by
    simp only [bne_iff_ne,ne_eq];omega
   have HB:=Hd (HBAD.out h9);clear HBAD F0;go_wp2_with fail;go_ret2;exact ⟨hb13,.inr ⟨HB.out,rfl⟩⟩
end
section
inductive Rch (f:Flr):Nat->Nat->Prop
 | one {i k:Nat}:stepR f i k->Rch f i k
 | cons {i j k:Nat}:stepR f i j->Rch f j k->Rch f i k
theorem Rch.snoc {f:Flr} {i j k:Nat} (h:Rch f i j) (s:stepR f j k):Rch f i k:=by
 induction h with
 | one t=>exact .cons t (.one s)
 | cons t _ ih=>exact .cons t (ih s)
theorem Ko.irr {f:Flr} {i:Nat} (h:Ko f i):¬ Rch f i i:=by
 induction h with
 | @mk i _ ih =>
  intro r;cases r with
  | one s=>exact ih i s (.one s)
  | cons s r=>exact ih _ s (r.snoc s)
theorem Ko.step {f:Flr} {i k:Nat} (h:Ko f i) (s:stepR f i k):Ko f k:=by
 cases h with
 | mk h=>exact h k s
theorem step_lt {f:Flr} (hok:f.Ok) {i k:Nat} (hi:i<f.R*f.S*f.S) (h:stepR f i k):k<f.R*f.S*f.S:=by
 obtain ⟨e1,e2,e3,_⟩:=state_lt hok hi;have hd:=fun m (hm:m∈Ju f (Cv f.R f.S i) (Eo f.S i) (Cq f.R f.S i))=>(hok.dk _ (Cg [] (show Kf f (Cv f.R f.S i) (Eo f.S i) (Cq f.R f.S i)<f.drive.length by rw [hok.dl];exact (kinds_in hok e1 e2).2.2))).2.2 m hm
 obtain ⟨m,hm⟩:=h;unfold En at hm;obtain ⟨m',hm',he⟩:=List.mem_map.1 hm;simp only [Prod.mk.injEq] at he;have hb:=hd m' hm';have he2:=he.2;unfold nextN at he2
 split at he2
 ·cases he2
 ·rename_i hq;simp only [Option.some.injEq] at he2;rw [<- he2];refine num_lt (by omega) ?_ (Nat.mod_lt _ (by omega))
  have:=Int.emod_lt_of_pos ((Eo f.S i:Int)+m'.side) (b:=f.S) (by omega)
  have:=Int.emod_nonneg ((Eo f.S i:Int)+m'.side) (b:=f.S) (by omega)
  omega
theorem cnt_set:∀ (l:List Bool) (i:Nat),i<l.length->l.getD i true=false->(l.set i true).count false+1=l.count false
 | x :: l,0,_,h=>by
  simp at h;subst h;simp
 | x :: l,i+1,hi,h=>by
  have ih:=cnt_set l i (by simpa using hi) (by simpa using h)
  simp only [List.set_cons_succ,List.count_cons];omega
theorem set_back:∀ (l:List Bool) (i:Nat),l.getD i true=false->(l.set i true).set i false=l
 | [],_,_=>rfl
 | x :: l,0,h=>by simp at h;subst h;simp
 | x :: l,i+1,h=>by
  have ih:=set_back l i (by simpa using h)
  simp [ih]
theorem getD_dflt {l:List Bool} {i:Nat} (hi:i<l.length) (a b:Bool):l.getD i a=l.getD i b:=by
 rw [Aj _ _ hi,Aj _ _ hi]
theorem getD_set_ne {l:List Bool} {i k:Nat} (x d:Bool) (h:i≠k):(l.set i x).getD k d=l.getD k d:=by
 simp only [List.getD_eq_getElem?_getD,List.getElem?_set,if_neg h]
structure Em where
 N:Nat
 n:Nat
 b:Nat
 Bf:Nat
 Bd:Nat
 Bo:Nat
 Bp:Nat
 Bs:Nat
 gon:Nat
 gd:Nat
def Em.caps (L:Em):Array Value:=#[.pointer (some ⟨L.Bo,0,none⟩),.pointer (some ⟨L.Bf,0,none⟩),.pointer (some ⟨L.Bd,0,none⟩),.pointer (some ⟨L.Bp,0,none⟩),.pointer (some ⟨L.Bs,0,none⟩)]
structure Em.Ok (L:Em):Prop where
 n1:L.n<=L.gon
 n2:L.n<=L.gd
 n3:L.n<=L.Bp
 ne:L.gon≠L.gd
structure Fv (L:Em) (on dn:List Bool) (p:Nat) (v:Value) (W:World):Prop where
 bf:Bk W L.Bf 173 #[.pointer (some ⟨L.b,0,none⟩)]
 bd:Bk W L.Bd 266 #[.slice (some ⟨L.gd,0,none⟩) L.N L.N]
 bo:Bk W L.Bo 266 #[.slice (some ⟨L.gon,0,none⟩) L.N L.N]
 bs:Bk W L.Bs 229 #[.func (.func 195) #[] L.caps]
 ron:Bk W L.gon 4 (Dp on).toArray
 rdn:Bk W L.gd 4 (Dp dn).toArray
 bp:Bk W L.Bp 155 #[v]
 own:∃ xs,W.ownsRow L.n 247 3 v p xs
 lon:on.length=L.N
 ldn:dn.length=L.N
theorem Ck {w:World} {base:Nat} {e:TypeId} {size:Nat} {v:Value} {n:Nat} {xs:List Value} (h:w.ownsRow base e size v n xs) {g:Nat} (hg:v.ownBlock=some g):∃ cs,Bk w g e cs:=by
 rcases h.2 with ⟨rfl,_⟩ | ⟨g',cap,cur,rfl,_,hgb,_⟩
 ·simp [Value.ownBlock] at hg
 ·obtain rfl:g'=g:=by simpa [Value.ownBlock] using hg
  exact ⟨cur,hgb⟩
theorem Fv.vn {L:Em} {on dn:List Bool} {p:Nat} {v:Value} {W:World} (h:Fv L on dn p v W):∀ k,v.ownBlock=some k->L.n<=k/\k<W.heap.size:=by
 obtain ⟨xs,hx⟩:=h.own;exact hx.lt
structure Bz (L:Em) (W W':World):Prop where
 bel:Below L.n W W'
 block:∀ k o,W.heap[k]?=some o->k≠L.gon->k≠L.gd->k≠L.Bp->(∀ cs r,o≠.cells cs 247 r)->W'.heap[k]?=some o
theorem Bz.refl (L:Em) (W:World):Bz L W W:=⟨Below.refl _ _,fun _ _ h _ _ _ _=>h⟩
theorem Bz.trans {L:Em} {A B C:World} (h:Bz L A B) (k:Bz L B C):Bz L A C :=
 ⟨h.bel.trans k.bel,fun j o hj h1 h2 h3 h4=>k.block j o (h.block j o hj h1 h2 h3 h4) h1 h2 h3 h4⟩
theorem Bz.of_below {L:Em} {W W':World} (h:Below W.heap.size W W') (hn:L.n<=W.heap.size):Bz L W W' :=
 ⟨⟨h.os,h.tape,h.output,h.size,fun k hk=>h.block k (by omega)⟩,fun k o hk _ _ _ _=>(h.block k (Array.getElem?_eq_some_iff.1 hk).1).trans hk⟩
theorem Bz.set {L:Em} (hL:L.Ok) {W:World} {p:Addr} (u:Value) (h:p.block=L.gon\/p.block=L.gd\/p.block=L.Bp):Bz L W (W.setCell p u) :=
 ⟨(Below.refl _ _).setCell (by have:=hL.n1;have:=hL.n2;have:=hL.n3;rcases h with h | h | h<;>rw [h]<;>assumption) u,fun k o hk h1 h2 h3 _=>(Below.heap_setCell W p u k (by rcases h with h | h | h<;>rw [h]<;>assumption)).trans hk⟩
theorem Bz.grown {L:Em} {A B C:World} {row:Option Nat} (h:Bz L A B) (hg:B.grownBy C row) (hn:L.n<=A.heap.size) (hr:∀ r,row=some r->A.heap.size<=r):Bz L A C :=
 ⟨h.bel.grown hg (Nat.le_trans hn h.bel.size) (fun r e=>by have:=hr r e;omega),fun k o hk h1 h2 h3 h4=>by
  have hlt:=(Array.getElem?_eq_some_iff.1 hk).1;exact (hg.block k (Nat.lt_of_lt_of_le hlt h.bel.size) (fun e=>by have:=hr k e.symm;omega)).trans (h.block k o hk h1 h2 h3 h4)⟩
theorem Bz.row {L:Em} {on dn:List Bool} {p:Nat} {v:Value} {W W':World} (hs:Fv L on dn p v W) (hn:L.n<=W.heap.size) (hg:W.grownBy W' v.ownBlock):Bz L W W' :=
 ⟨(Below.refl _ _).grown hg hn (fun r e=>(hs.vn r e).1),fun k o hk _ _ _ h4=>by
  refine (hg.block k (Array.getElem?_eq_some_iff.1 hk).1 (fun e=>?_)).trans hk
  obtain ⟨xs,hx⟩:=hs.own;obtain ⟨cs,hc⟩:=Ck hx e.symm;unfold Bk at hc;rw [hc] at hk;exact h4 _ _ (Option.some.inj hk).symm⟩
theorem Bz.other {L:Em} {on dn:List Bool} {p:Nat} {v:Value} {W W':World} (h:Bz L W W') (hs:Fv L on dn p v W) {k:Nat} {o:Obj} (hk:W.heap[k]?=some o)
  (ho:∀ cs r,o≠.cells cs 4 r/\o≠.cells cs 155 r/\o≠.cells cs 247 r):W'.heap[k]?=some o:=by
 refine h.block k o hk ?_ ?_ ?_ (fun cs r=>(ho cs r).2.2)
 ·rintro rfl;have:W.heap[L.gon]?=some _:=hs.ron;rw [this] at hk;exact (ho _ _).1 (Option.some.inj hk).symm
 ·rintro rfl;have:W.heap[L.gd]?=some _:=hs.rdn;rw [this] at hk;exact (ho _ _).1 (Option.some.inj hk).symm
 ·rintro rfl;have:W.heap[L.Bp]?=some _:=hs.bp;rw [this] at hk;exact (ho _ _).2.1 (Option.some.inj hk).symm
theorem Bz.others {L:Em} {on dn:List Bool} {p:Nat} {v:Value} {W W':World} (h:Bz L W W') (hs:Fv L on dn p v W):KeepsOthers W W' :=
 ⟨h.bel.size,fun k o hk ho=>h.other hs hk (fun cs r=>by
  refine ⟨?_,?_,?_⟩<;>(intro e;subst e;cases ho))⟩
theorem Bz.kps {L:Em} {on dn:List Bool} {p:Nat} {v:Value} {W W':World} (h:Bz L W W') (hs:Fv L on dn p v W):KpS L.n W W' :=
 ⟨h.bel,fun k cs t r ht hk=>h.other hs hk (fun cs' r'=>by
  refine ⟨?_,?_,?_⟩<;>(intro e;injection e with _ e _;rcases ht with rfl | rfl<;>exact absurd e (by decide)))⟩
theorem Bz.bk {L:Em} {W W':World} (h:Bz L W W') {q:Nat} {t:TypeId} {cs:Array Value} (hq:Bk W q t cs) (h1:q≠L.gon) (h2:q≠L.gd) (h3:q≠L.Bp) (ht:t≠247):Bk W' q t cs :=
 h.block q _ hq h1 h2 h3 (fun cs' r' e=>by injection e with _ e _;exact ht e)
theorem Fv.dis {L:Em} {on dn:List Bool} {p:Nat} {v:Value} {W:World} (hs:Fv L on dn p v W) {q:Nat} {t:TypeId} {cs:Array Value} (hq:Bk W q t cs) :
  (t≠4->q≠L.gon/\q≠L.gd)/\(t≠155->q≠L.Bp)/\(t≠247->v.ownBlock≠some q):=by
 refine ⟨fun h=>⟨hq.ne hs.ron h,hq.ne hs.rdn h⟩,fun h=>hq.ne hs.bp h,fun h e=>?_⟩
 obtain ⟨xs,hx⟩:=hs.own;obtain ⟨cs',hc⟩:=Ck hx e;exact hq.ne hc h rfl
theorem Fv.grown {L:Em} {on dn:List Bool} {p:Nat} {v:Value} {W W':World} {row:Option Nat} (h:Fv L on dn p v W) (hg:W.grownBy W' row) (hr:∀ r,row=some r->∃ o:Obj,W.heap[r]?=some o/\o.isCells=false):Fv L on dn p v W':=by
 have key:∀ {q:Nat} {t:TypeId} {cs:Array Value},Bk W q t cs->some q≠row:=fun hq e=>by
  obtain ⟨o,ho,hc⟩:=hr _ e.symm;unfold Bk at hq;rw [hq] at ho;cases ho;cases hc
 obtain ⟨xs,hx⟩:=h.own;refine ⟨h.bf.grown hg (key h.bf),h.bd.grown hg (key h.bd),h.bo.grown hg (key h.bo),h.bs.grown hg (key h.bs),h.ron.grown hg (key h.ron),h.rdn.grown hg (key h.rdn),h.bp.grown hg (key h.bp),⟨xs,hx.kept hg ?_⟩,h.lon,h.ldn⟩;cases hv:v.ownBlock with
 | none=>exact .inl rfl
 | some g =>
  obtain ⟨cs,hc⟩:=Ck hx hv;exact .inr (key hc)
theorem Fv.below {L:Em} {on dn:List Bool} {p:Nat} {v:Value} {W W':World} (h:Fv L on dn p v W) (hb:Below W.heap.size W W'):Fv L on dn p v W' :=
 h.grown (row:=none) ⟨hb.os,hb.tape,hb.output,hb.size,fun k hk _=>hb.block k hk⟩ (fun r e=>by cases e)
theorem Fv.drew {L:Em} {on dn:List Bool} {p:Nat} {v:Value} {W:World} (h:Fv L on dn p v W):Fv L on dn p v W.drew:=h.below ⟨rfl,rfl,rfl,Nat.le_refl _,fun _ _=>rfl⟩
theorem Fv.far {L:Em} {on dn:List Bool} {p:Nat} {v:Value} {W:World} (h:Fv L on dn p v W) {q:Addr} (u:Value) (hq:q.block≠L.Bf/\q.block≠L.Bd/\q.block≠L.Bo/\q.block≠L.Bs/\q.block≠L.gon/\q.block≠L.gd/\q.block≠L.Bp/\v.ownBlock≠some q.block):Fv L on dn p v (W.setCell q u):=by
 obtain ⟨h1,h2,h3,h4,h5,h6,h7,h8⟩:=hq;obtain ⟨xs,hx⟩:=h.own;exact ⟨h.bf.far h1.symm u,h.bd.far h2.symm u,h.bo.far h3.symm u,h.bs.far h4.symm u,h.ron.far h5.symm u,h.rdn.far h6.symm u,h.bp.far h7.symm u,⟨xs,own_far hx h8 u⟩,h.lon,h.ldn⟩
theorem boolRow_set (l:List Bool) (i:Nat) (x:Bool):(Dp l).toArray.setIfInBounds i (.bool x)=(Dp (l.set i x)).toArray:=by
 rw [List.setIfInBounds_toArray,boolCells_set]
theorem Fv.setOn {L:Em} {on dn:List Bool} {p:Nat} {v:Value} {W:World} (h:Fv L on dn p v W) (hL:L.Ok) (i:Nat) (x:Bool):Fv L (on.set i x) dn p v (W.setCell ⟨L.gon,i,none⟩ (.bool x)):=by
 obtain ⟨xs,hx⟩:=h.own;refine ⟨h.bf.far (h.bf.ne h.ron (by decide)) _,h.bd.far (h.bd.ne h.ron (by decide)) _,h.bo.far (h.bo.ne h.ron (by decide)) _,h.bs.far (h.bs.ne h.ron (by decide)) _,?_,h.rdn.far (fun e=>hL.ne e.symm) _,h.bp.far (h.bp.ne h.ron (by decide)) _,⟨xs,own_far hx ((h.dis h.ron).2.2 (by decide)) _⟩,by simp [h.lon],h.ldn⟩
 rw [<- boolRow_set];exact h.ron.put i _
theorem Fv.setDn {L:Em} {on dn:List Bool} {p:Nat} {v:Value} {W:World} (h:Fv L on dn p v W) (hL:L.Ok) (i:Nat) (x:Bool):Fv L on (dn.set i x) p v (W.setCell ⟨L.gd,i,none⟩ (.bool x)):=by
 obtain ⟨xs,hx⟩:=h.own;refine ⟨h.bf.far (h.bf.ne h.rdn (by decide)) _,h.bd.far (h.bd.ne h.rdn (by decide)) _,h.bo.far (h.bo.ne h.rdn (by decide)) _,h.bs.far (h.bs.ne h.rdn (by decide)) _,h.ron.far hL.ne _,?_,h.bp.far (h.bp.ne h.rdn (by decide)) _,⟨xs,own_far hx ((h.dis h.rdn).2.2 (by decide)) _⟩,h.lon,by simp [h.ldn]⟩
 rw [<- boolRow_set];exact h.rdn.put i _
theorem Fv.setP {L:Em} {on dn:List Bool} {p p':Nat} {v v':Value} {W:World} (h:Fv L on dn p v W) (hv:∃ xs,W.ownsRow L.n 247 3 v' p' xs):Fv L on dn p' v' (W.setCell ⟨L.Bp,0,none⟩ v'):=by
 obtain ⟨xs,hx⟩:=hv;refine ⟨h.bf.far (h.bf.ne h.bp (by decide)) _,h.bd.far (h.bd.ne h.bp (by decide)) _,h.bo.far (h.bo.ne h.bp (by decide)) _,h.bs.far (h.bs.ne h.bp (by decide)) _,h.ron.far (h.ron.ne h.bp (by decide)) _,h.rdn.far (h.rdn.ne h.bp (by decide)) _,?_,⟨xs,own_far hx ?_ _⟩,h.lon,h.ldn⟩
 ·have:=h.bp.put 0 v'
  simpa using this
 ·intro e;obtain ⟨cs,hc⟩:=Ck hx e;exact hc.ne h.bp (by decide) rfl
theorem Fv.row {L:Em} {on dn:List Bool} {p p':Nat} {v v':Value} {W W':World} (h:Fv L on dn p v W) (hg:W.grownBy W' v.ownBlock) (hv:∃ xs,W'.ownsRow L.n 247 3 v' p' xs):Fv L on dn p' v' (W'.setCell ⟨L.Bp,0,none⟩ v'):=by
 have key:∀ {q:Nat} {t:TypeId} {cs:Array Value},Bk W q t cs->t≠247->Bk W' q t cs:=fun hq ht=>hq.grown hg (fun e=>(h.dis hq).2.2 ht e.symm)
 obtain ⟨xs,hx⟩:=hv;have hbp:=key h.bp (by decide)
 refine ⟨(key h.bf (by decide)).far (h.bf.ne h.bp (by decide)) _,(key h.bd (by decide)).far (h.bd.ne h.bp (by decide)) _,(key h.bo (by decide)).far (h.bo.ne h.bp (by decide)) _,(key h.bs (by decide)).far (h.bs.ne h.bp (by decide)) _,(key h.ron (by decide)).far (h.ron.ne h.bp (by decide)) _,(key h.rdn (by decide)).far (h.rdn.ne h.bp (by decide)) _,?_,⟨xs,own_far hx ?_ _⟩,h.lon,h.ldn⟩
 ·have:=hbp.put 0 v'
  simpa using this
 ·intro e;obtain ⟨cs,hc⟩:=Ck hx e;exact hc.ne hbp (by decide) rfl
theorem own_init {w:World} {base:Nat} {e:TypeId} {size n cap:Nat} {g:Nat} {xs:List Value} (h:w.ownsRow base e size (.slice (some ⟨g,0,none⟩) (n+1) cap) (n+1) xs):w.ownsRow base e size (.slice (some ⟨g,0,none⟩) n cap) n (xs.take (n*size)):=by
 refine ⟨by rw [List.length_take,h.1];exact Nat.min_eq_left (Nat.mul_le_mul_right _ (by omega)),.inr ?_⟩
 rcases h.2 with ⟨h1,_⟩ | ⟨g',cap',cur,h1,hb,hg,hc,hm,hs,ht⟩
 ·cases h1
 ·simp only [Value.slice.injEq,Option.some.injEq,Addr.mk.injEq,and_true,true_and] at h1;obtain ⟨rfl,rfl⟩:=h1;refine ⟨g,cap,cur,rfl,hb,hg,by omega,hm,hs,?_⟩
  rw [<- ht,List.take_take,Nat.min_eq_left (Nat.mul_le_mul_right _ (by omega))]
end
section
attribute [local go_sem ↓] Ei Eh
theorem isCut_any (mo ms:Int) (mc:Bool) (w:World):Calls Tryz.prog 126 #[.agg #[.int .i64 mo,.int .i64 ms,.bool mc]] w fun e w'=>e=.returned (.bool mc)/\Below w.heap.size w w':=by
 have hB:Below w.heap.size w (w.alloc (.cells #[.int .i64 mo,.int .i64 ms,.bool mc] 247)):=Ba;go_enter Tryz.func126,Tryz.ntmps126;go_wp2_with fail;go_ret;exact ⟨rfl,hB⟩
def firstCut (l:List Mv):Int:=match l.findIdx? (fun m=>m.cut) with | some i=>i | none=>-1
theorem firstCut_hit (l:List Mv) (k:Nat) (hk:k<l.length) (h:∀ j,j<k->(l.getD j mv0).cut=false) (hb:(l.getD k mv0).cut=true):firstCut l=k:=by
 have e:l.findIdx? (fun m=>m.cut)=some k:=by
  rw [List.findIdx?_eq_some_iff_getElem];refine ⟨hk,by rw [Aj _ _ hk] at hb;exact hb,fun j hj=>?_⟩
  have:=h j hj;rw [Aj _ _ (by omega)] at this
  simp [this]
 simp [firstCut,e]
theorem firstCut_none (l:List Mv) (h:∀ j,j<l.length->(l.getD j mv0).cut=false):firstCut l = -1:=by
 have e:l.findIdx? (fun m=>m.cut)=none:=by
  rw [List.findIdx?_eq_none_iff];intro m hm;obtain ⟨j,hj,rfl⟩:=List.getElem_of_mem hm;have:=h j hj;rw [Aj _ _ hj] at this;simp [this]
 simp [firstCut,e]
theorem firstCut_any (l:List Mv):decide (firstCut l>=0)=l.any (fun m=>m.cut):=by
 unfold firstCut;cases e:l.findIdx? (fun m=>m.cut) with
 | none =>
  rw [List.findIdx?_eq_none_iff] at e;have h:l.any (fun m=>m.cut)=false:=by rw [List.any_eq_false];intro m hm;simpa using e m hm
  simp [h]
 | some i =>
  rw [List.findIdx?_eq_some_iff_getElem] at e;obtain ⟨hi,h1,_⟩:=e;have h:l.any (fun m=>m.cut)=true:=by
   rw [List.any_eq_true];exact ⟨l[i],List.getElem_mem hi,h1⟩
  simp [h]
theorem index65_any (A:Option Addr) (c:Nat) (l:List Mv) (w:World) (hL:Ad w A (Gz l)) (hn:l.length<=1000) :
  Calls Tryz.prog 169 #[.slice A l.length c,.func (.func 126) #[] #[]] w fun e w'=>e=.returned (.int .i64 (firstCut l))/\Below w.heap.size w w':=by
 have HL:=Hd hL;clear hL;have hB0:=Below.refl w.heap.size w;go_enter Tryz.func169,Tryz.ntmps169;go_wp2_with fail;go_loopw [8] (fun i wr=>∃ k:Nat,k<=l.length/\i=.int .i64 k/\Below w.heap.size w wr/\Hid (∀ j,j<k->(l.getD j mv0).cut=false)) (fun i _=>l.length - (intOf i).toNat)
 case atStart=>exact ⟨0,Nat.zero_le _,rfl,hB0,fun j h=>absurd h (by omega)⟩
 case round =>
  obtain ⟨k,hk,rfl,hBr,hall⟩:=hrel
  by_cases hlt:k<l.length
  ·obtain ⟨b5,o5,hA,hb5,hc5⟩:=mv_cells (HL.out.below hBr) (by omega)
   obtain ⟨c0,c1,c2⟩:=hc5 k hlt;have HALL:=Hd (fun (hg:(l.getD k mv0).cut=false) j (hj:j<k+1)=>show (l.getD j mv0).cut=false by
    rcases Nat.lt_or_ge j k with h | h
    ·exact hall.out j h
    ·obtain rfl:j=k:=by omega
     exact hg)
   have HH:=Hd (fun (hg:(l.getD k mv0).cut=true)=>firstCut_hit l k hlt hall.out hg)
   clear hc5 hall hB0;rw [hA];clear hA;generalize l.getD k mv0=mk at *;obtain ⟨mo,ms,mc⟩:=mk;simp only at c0 c1 c2 HALL HH;cases mc
   ·go_wp2_with (go_at_call 126;refine (isCut_any _ _ _ _).mono ?_;rintro e w1 ⟨rfl,hb1⟩);have hB1:=hBr.trans (hb1.mono hBr.size);go_roundw
    case rel=>exact ⟨k+1,by omega,by go_num,hB1,HALL.out (by first | rfl | trivial)⟩
    case measure=>simp [intOf];omega
   ·go_wp2_with (go_at_call 126;refine (isCut_any _ _ _ _).mono ?_;rintro e w1 ⟨rfl,hb1⟩);have hB1:=hBr.trans (hb1.mono hBr.size);go_ret;exact ⟨Cb (HH.out (by first | rfl | trivial)).symm,hB1⟩
  ·have:k=l.length:=by omega
   subst this;have HE:=Hd (firstCut_none l hall.out);clear hall;go_wp2;go_ret;exact ⟨Cb HE.out.symm,hBr⟩
theorem contains42_any (A:Option Addr) (c:Nat) (l:List Mv) (w:World) (hL:Ad w A (Gz l)) (hn:l.length<=1000) :
  Calls Tryz.prog 124 #[.slice A l.length c,.func (.func 126) #[] #[]] w fun e w'=>e=.returned (.bool (l.any (fun m=>m.cut)))/\Below w.heap.size w w':=by
 go_enter Tryz.func124,Tryz.ntmps124;go_wp2_with (go_at_call 169;refine (index65_any _ _ _ _ hL hn).mono ?_;rintro e w1 ⟨rfl,hb1⟩);go_ret;exact ⟨Af (firstCut_any l),hb1⟩
def Eu (f:Flr) (ring sec _turn:Nat):Nat:=ring*f.S+sec
def Er (f:Flr) (ring sec turn:Nat):Nat:=ring*f.S+runS f.S sec turn
theorem bedIx_any (b q:Nat) (f:Flr) (z:Hc) (ring sec turn:Nat) (w:World) (hf:Hu w b f z) (hok:f.Ok) (h1:ring<f.R) (h2:sec<f.S) (h3:turn<f.S) (hq:Bk w q 173 #[.pointer (some ⟨b,0,none⟩)]) :
  Calls Tryz.prog 82 #[stV ring sec turn,.pointer (some ⟨q,0,none⟩)] w fun e w'=>e=.returned (.int .i64 (Eu f ring sec turn))/\Below w.heap.size w w':=by
 obtain ⟨r0,r1,s0,s1,_,_,_,_,_,_⟩:=id hok;have HE:Hid ((Eu f ring sec turn:Int)=(ring:Int)*f.S+sec):=by simp [Hid,Eu]
 obtain ⟨W,hW⟩:∃ W,w.alloc (.cells #[.int .i64 ring,.int .i64 sec,.int .i64 turn] 178)=W:=⟨_,rfl⟩;have hbW:Below w.heap.size w W:=by rw [<- hW];exact Ba
 have Y:Bk W w.heap.size 178 #[.int .i64 ring,.int .i64 sec,.int .i64 turn]:=by rw [<- hW];exact Aa rfl
 have x0:=(hf.below hbW).cS;have xq:=(hq.keep hbW).cell 0;have y0:=Y.cell 0;have y1:=Y.cell 1;have y2:=Y.cell 2;simp at y0 y1 y2 xq;have HW:=Hd hW;clear hf hW Y hq;have hm:=Jj (a:=ring) (b:=f.S) (m:=4) (n:=8) (by omega) (by omega) (by omega) (by omega)
 generalize f.S=S at *;have hw1:=IntWalk.i64_in ((ring:Int)*S) (by omega)
 have hw2:=IntWalk.i64_in ((ring:Int)*S+sec) (by omega)
 clear hm;unfold stV;go_enter Tryz.func82,Tryz.ntmps82;go_upto_region 1 with fail
 rw [HW.out];clear HW;go_quiet (fail);go_wp2_with fail;go_ret;exact ⟨by rw [HE.out];rfl,As hbW _⟩
theorem runIx_any (b q:Nat) (f:Flr) (z:Hc) (ring sec turn:Nat) (w:World) (hf:Hu w b f z) (hok:f.Ok) (h1:ring<f.R) (h2:sec<f.S) (h3:turn<f.S) (hq:Bk w q 173 #[.pointer (some ⟨b,0,none⟩)]) :
  Calls Tryz.prog 80 #[stV ring sec turn,.pointer (some ⟨q,0,none⟩)] w fun e w'=>e=.returned (.int .i64 (Er f ring sec turn))/\Below w.heap.size w w':=by
 obtain ⟨r0,r1,s0,s1,_,_,_,_,_,_⟩:=id hok;have HE:Hid ((Er f ring sec turn:Int)=(ring:Int)*f.S+runS f.S sec turn):=by simp [Hid,Er]
 have hrs:=runS_lt (S:=f.S) (sec:=sec) (turn:=turn) (by omega)
 have hrv:=runS_val (S:=f.S) (sec:=sec) (turn:=turn) h3;obtain ⟨W,hW⟩:∃ W,w.alloc (.cells #[.int .i64 ring,.int .i64 sec,.int .i64 turn] 178)=W:=⟨_,rfl⟩;have hbW:Below w.heap.size w W:=by rw [<- hW];exact Ba
 have Y:Bk W w.heap.size 178 #[.int .i64 ring,.int .i64 sec,.int .i64 turn]:=by rw [<- hW];exact Aa rfl
 have x0:=(hf.below hbW).cS;have xq:=(hq.keep hbW).cell 0;have y0:=Y.cell 0;have y1:=Y.cell 1;have y2:=Y.cell 2;simp at y0 y1 y2 xq;have HR:Hid (∀ x:Ext W,Calls Tryz.prog 81 #[.pointer (some ⟨b,0,none⟩),.int .i64 ((sec:Int) - turn)] x.w fun e w'=>e=.returned (.int .i64 (runS f.S sec turn))/\Below x.w.heap.size x.w w'):=fun x=>by
  rw [<- hrv];exact round_any b f.S _ x.w (by omega) (by omega) ((hf.below hbW).below x.bel).cS (by omega)
 have HW:=Hd hW;clear hf hW Y hq hrv;have hm:=Jj (a:=ring) (b:=f.S) (m:=4) (n:=8) (by omega) (by omega) (by omega) (by omega)
 generalize runS f.S sec turn=rs at *;generalize f.S=S at *;have hw1:=IntWalk.i64_in ((ring:Int)*S) (by omega)
 have hw2:=IntWalk.i64_in ((ring:Int)*S+rs) (by omega)
 have hw4:=IntWalk.i64_in ((sec:Int) - turn) (by omega)
 clear hm;unfold stV;go_enter Tryz.func80,Tryz.ntmps80;go_upto_region 1 with fail
 rw [HW.out];clear HW;replace x0:=fun x:Ext W=>Ag x.bel x0
 replace xq:=fun x:Ext W=>Ag x.bel xq
 replace y0:=fun x:Ext W=>Ag x.bel y0
 replace y1:=fun x:Ext W=>Ag x.bel y1
 replace y2:=fun x:Ext W=>Ag x.bel y2
 refine Bg (by kernel_rfl) (by kernel_rfl) ?_
 repeat (go_big_quiet_step ((go_at_call 81;exact Cj (HR.out _))))
 refine wpQuiet_nil ?_;rintro _ ⟨y,rfl⟩;clear x0 xq y0 y1 y2 HR;have hb9:=y.bel;generalize y.w=w9 at hb9 ⊢;go_wp2_with fail;go_ret;exact ⟨by rw [HE.out];rfl,hbW.trans (hb9.mono hbW.size)⟩
end
section
theorem Jb {w:World} {A:Option Addr} {l:List Int} (h:Ad w A (Ac l)) (h0:0<l.length):∃ b off,A=some ⟨b,off,none⟩/\b<w.heap.size/\∀ k,k<l.length->w.cell? ⟨b,off+k,none⟩=some (.int .i64 (l.getD k 0)):=by
 obtain ⟨b,off,h1,h2,h3⟩:=h.some_ (by simpa [Ac] using h0)
 refine ⟨b,off,h1,h2,fun k hk=>h3 k _ ?_⟩
 unfold Ac;rw [List.getElem?_map,List.getElem?_eq_getElem hk,List.getD_eq_getElem?_getD,List.getElem?_eq_getElem hk];rfl
end
section
open Go.RowKit Go.Shelf
attribute [local go_sem ↓] Ei Eh
attribute [local go_sem] Oper.semAt_some
theorem Fv.con {L:Em} {on dn:List Bool} {p:Nat} {v:Value} {W:World} (h:Fv L on dn p v W) {i:Nat} (hi:i<L.N):W.cell? ⟨L.gon,i,none⟩=some (.bool (on.getD i false)):=by
 rw [h.ron.cell i];have:=h.lon;simp [Dp,List.getD_eq_getElem?_getD,show i<on.length by omega]
theorem Fv.cdn {L:Em} {on dn:List Bool} {p:Nat} {v:Value} {W:World} (h:Fv L on dn p v W) {i:Nat} (hi:i<L.N):W.cell? ⟨L.gd,i,none⟩=some (.bool (dn.getD i false)):=by
 rw [h.rdn.cell i];have:=h.ldn;simp [Dp,List.getD_eq_getElem?_getD,show i<dn.length by omega]
theorem mvInfo:(Tryz.prog.info? 247).map (fun i=>(i.zero,i.size,i.bytes))=some (some (.agg #[.int .i64 0,.int .i64 0,.bool false]),3,24):=by kernel_rfl
theorem buildMv (W:World) (mo ms:Int) (mc:Bool) :
  (Instr.buildSlice 155 1 #[(0,.agg #[.int .i64 mo,.int .i64 ms,.bool mc])]).run Tryz.prog W=.ok (.slice (some ⟨W.heap.size,0,none⟩) 1 1) (W.alloc (.cells #[.int .i64 mo,.int .i64 ms,.bool mc] 247)):=by kernel_rfl
theorem seek_mid {L:Em} {on dn:List Bool} {p:Nat} {v:Value} {W w6:World} (h:Fv L on dn p v W) (hg:W.grownBy w6 v.ownBlock) {k:Nat} (hk:k<L.N) {b:Bool} (hb:on.getD k false=b) :
  w6.cell? ⟨L.Bp,0,none⟩=some v/\w6.frozen? ⟨L.Bp,0,none⟩=false/\L.Bp<w6.heap.size/\w6.cell? ⟨L.Bo,0,none⟩=some (.slice (some ⟨L.gon,0,none⟩) L.N L.N)/\w6.cell? ⟨L.gon,k,none⟩=some (.bool b)/\w6.cell? ⟨L.Bs,0,none⟩=some (.func (.func 195) #[] L.caps):=by
 have key:∀ {q:Nat} {t:TypeId} {cs:Array Value},Bk W q t cs->t≠247->Bk w6 q t cs:=fun hq ht=>hq.grown hg (fun e=>(h.dis hq).2.2 ht e.symm)
 have b1:=key h.bp (by decide)
 have b2:=key h.bo (by decide)
 have b3:=key h.ron (by decide)
 have b4:=key h.bs (by decide)
 refine ⟨by simpa using b1.cell 0,b1.fz 0,b1.lt,by simpa using b2.cell 0,?_,by simpa using b4.cell 0⟩
 rw [b3.cell k,<- hb];have:=h.lon;simp [Dp,List.getD_eq_getElem?_getD,show k<on.length by omega]
def SeekP (f:Flr) (L:Em) (i:Nat) (on:List Bool) (p:Nat) (v:Value) (W:World) (e:Ending) (W':World):Prop :=
 (∃ dn' v',e=.returned (.bool false)/\Fv L on dn' p v' W'/\Bz L W W'/\(∀ k,dn'.getD k false=true->Ko f k)/\Ko f i)\/
 (e=.returned (.bool true)/\¬ Ko f i/\Bz L W W'/\∃ a n c,Bk W' L.Bp 155 #[.slice (some a) n c])
structure SeekIn (f:Flr) (L:Em) (w0:World) (i:Nat) (on dn:List Bool) (p:Nat) (v:Value) (W:World):Prop where
 hi:i<L.N
 oi:on.getD i false=false
 at_:Fv L on dn p v W
 bel:Below L.n w0 W
 acc:∀ k,dn.getD k false=true->Ko f k
 rch:∀ k,on.getD k false=true->Rch f k i
 cnt:p+on.count false<=2000
theorem seek_any (f:Flr) (z:Hc) (L:Em) (w0:World) (hL:L.Ok) (hf:Hu w0 L.b f z) (hok:f.Ok) (hN:L.N=f.R*f.S*f.S) (hw0:w0.heap.size=L.n) :
  ∀ (m:Nat) (i:Nat) (on dn:List Bool) (p:Nat) (v:Value) (W:World),on.count false<=m->SeekIn f L w0 i on dn p v W ->
   Calls Tryz.prog 195 (#[.int .i64 i] ++ L.caps) W (SeekP f L i on p v W):=by
 intro m
 induction m with
 | zero =>
  intro i on dn p v W hm h
  exfalso
  have:=cnt_set on i (by have:=h.at_.lon;have:=h.hi;omega) (by rw [getD_dflt (by have:=h.at_.lon;have:=h.hi;omega) true false];exact h.oi)
  omega
 | succ m ih =>
  intro i on dn p v W hm h;rw [show #[Value.int .i64 i] ++ L.caps=#[.int .i64 i,.pointer (some ⟨L.Bo,0,none⟩),.pointer (some ⟨L.Bf,0,none⟩),.pointer (some ⟨L.Bd,0,none⟩),.pointer (some ⟨L.Bp,0,none⟩),.pointer (some ⟨L.Bs,0,none⟩)] from rfl]
  have hilt:i<on.length:=by have:=h.at_.lon;have:=h.hi;omega
  have hcs:=cnt_set on i hilt (by rw [getD_dflt hilt true false];exact h.oi)
  have hsb:=set_back on i (by rw [getD_dflt hilt true false];exact h.oi)
  have hiI:(i:Int)<L.N:=by have:=h.hi;omega
  have hN1:L.N<=256:=by rw [hN];exact Nat.mul_le_mul (Nat.mul_le_mul hok.r1 hok.s1) hok.s1
  have S0:=h.at_;obtain ⟨W1,hW1⟩:∃ W1,W.alloc (.cells #[.bool false] 4)=W1:=⟨_,rfl⟩;have S1:Fv L on dn p v W1:=by rw [<- hW1];exact S0.below Ba
  have hnW:L.n<=W.heap.size:=by have:=h.bel.size;omega
  have K1:Bz L W W1:=by rw [<- hW1];exact .of_below Ba hnW
  have Q1:Bk W1 W.heap.size 4 #[.bool false]:=by rw [<- hW1];exact Aa rfl
  have c0:=S1.bo.cell 0;have c1:=S1.con h.hi;have c2:=S1.ron.fz i;have c3:=S1.ron.lt;have HS1:=Hd S1;have d0:=S1.bf.cell 0;have dne:=S1.bf.ne S1.ron (by decide)
  simp at c0 d0;have HW:=Hd hW1;have hH:=Hd h;have HSB:=Hd hsb;have HN:=Hd hN;have HW0:=Hd hw0;clear S0 S1 hW1 h hsb hN hw0;refine (callsIn_wide (n:=3)).1 ?_;refine callsIn_of_wp_marks Tryz.func195 rfl trivial ?_ rfl;simp only [Tryz.ntmps195,List.size_toArray,List.length_cons,List.length_nil,Nat.reduceAdd,Nat.reduceSub,Array.replicate_succ,Array.replicate_zero,List.push_toArray,List.append_toArray,List.nil_append,List.cons_append];refine wpIn_wide.2 ?_;go_upto_region 1 with fail
  rw [HW.out];clear HW;go_upto_region 2 with fail
  have S2:=HS1.out.setOn hL i true;have K2:Bz L W (W1.setCell ⟨L.gon,i,none⟩ (.bool true)):=K1.trans (Bz.set hL _ (.inl rfl));have hqs:W.heap.size≠L.gon:=fun e=>by have:=hH.out.at_.ron.lt;omega
  have Q2:=Q1.far (p:=⟨L.gon,i,none⟩) hqs (.bool true);clear c0 c1 c2 c3 d0 K1 HS1 Q1 dne;generalize W1.setCell ⟨L.gon,i,none⟩ (.bool true)=W2 at *;have d0:=S2.bf.cell 0;simp at d0;go_wp2_with (go_at_call 196;refine (steps_any L.b i _).mono ?_;rintro e w3 ⟨rfl,h65,h3,hb3⟩);have hS:Below L.n w0 w3:=by
   have h1:=hH.out.bel;have h2:=K2.bel;exact h1.trans (h2.trans (hb3.mono (by have:=h2.size;omega)))
  have S3:=S2.below hb3;have K3:Bz L W w3:=K2.trans (.of_below hb3 (by have:=K2.bel.size;omega))
  have Q3:=Q2.keep hb3;have hz3:W2.heap.size+1<w3.heap.size:=h3.lt;clear d0 S2 K2 Q2 hb3;generalize W2.heap.size=q2 at *;refine (wpIn_wide (n:=3)).1 ?_;refine wpIn_rangeFunc_ownH rfl (by omega) (gf:=224) (lb:=#[.pointer (some ⟨q2,0,none⟩),.pointer (some ⟨q2+1,0,none⟩)]) rfl trivial (enters_of Tryz.func224 (by kernel_rfl) rfl)
   (encs:=stepEnc f i) (Kp:=KpS L.n) (S:=fun xs=>xs=(En f i).attach) (Sp:=fun pre=>pre <+: (En f i).attach) (N:=(En f i).length) (w0:=w3)
   (steps1_stops (3 - 1) L.n L.b q2 (q2+1) f z i w0 w3 hf hok (by rw [<- HN.out];exact hH.out.hi) HW0.out hS h65 h3)
   (fun h k=>h.trans k) ?Kb (Below.refl _ _) (fun _=>rfl)
   (fun pre W'=>∃ dn' v',Fv L (on.set i true) dn' p v' W'/\Bz L W W'/\(∀ k,dn'.getD k false=true->Ko f k)/\(∀ x∈pre,∀ k,x.1.2=some k->Ko f k)/\Bk W' W.heap.size 4 #[.bool false])
   (fun c _ W'=>c=.ret/\¬ Ko f i/\Bz L W W'/\(∃ a n c,Bk W' L.Bp 155 #[.slice (some a) n c])/\Bk W' W.heap.size 4 #[.bool true])
   ?I ?Ix ⟨dn,v,S3,K3,hH.out.acc,by simp,Q3⟩
   (fun x a' W'=>∃ Bx,Bk W' Bx 247 #[.int .i64 x.1.1.out,.int .i64 x.1.1.side,.bool x.1.1.cut]/\a' = { tmps:=#[.int .i64 i,.pointer (some ⟨L.Bo,0,none⟩),.pointer (some ⟨L.Bf,0,none⟩),.pointer (some ⟨L.Bd,0,none⟩),.pointer (some ⟨L.Bp,0,none⟩),.pointer (some ⟨L.Bs,0,none⟩),undef,.pointer (some ⟨W.heap.size,0,none⟩),.pointer (some ⟨Bx,0,none⟩),.int .i64 (nextV x.1.2),.slice (some ⟨L.gon,0,none⟩) L.N L.N,.int .i64 i,.pointer (some ⟨L.gon,i,none⟩),.pointer (some ⟨L.b,0,none⟩),.int .i64 i,.func (.func 224) #[] #[.pointer (some ⟨q2,0,none⟩),.pointer (some ⟨q2+1,0,none⟩)],.agg #[.int .i64 x.1.1.out,.int .i64 x.1.1.side,.bool x.1.1.cut],.int .i64 (nextV x.1.2),undef,undef,undef,undef,undef,undef,undef,undef,undef,undef,undef,undef,undef,undef,undef,undef,undef,undef,undef,undef,undef,undef,undef,undef,undef,undef,undef,undef,undef,undef,undef,undef],defers:=[] })
   ?Ax ?assign ?body ?done ?stop
  case Kb =>
   intro X l o o' hl hX hc _;refine ⟨belowK_b (by have:=hS.size;have:=HW0.out;omega) X l o o' hl hX hc ‹_›,fun k cs t r _ hk=>?_⟩
   by_cases e:k=l
   ·subst e;rw [hk] at hX;cases hX;cases hc
   ·exact (World.putObj_heap_other e).trans hk
  case I =>
   rintro pre X X' row ⟨dn',v',h1,h2,h5,h6,h7⟩ hg hr;refine ⟨dn',v',h1.grown hg (fun r e=>(hr r e).2),h2.grown hg hnW (fun r e=>by have:=(hr r e).1;have:=K3.bel.size;omega),h5,h6,h7.grown hg (fun e=>?_)⟩
   have:=(hr _ e.symm).1;have:=Q3.lt;omega
  case Ix =>
   rintro c pre X X' row ⟨h1,h2,h4,⟨a,n,c',h5⟩,h6⟩ hg hr;refine ⟨h1,h2,h4.grown hg hnW (fun r e=>by have:=(hr r e).1;have:=K3.bel.size;omega),⟨a,n,c',h5.grown hg (fun e=>?_)⟩,h6.grown hg (fun e=>?_)⟩
   ·have:=(hr _ e.symm).1;have:=S3.bp.lt;omega
   ·have:=(hr _ e.symm).1;have:=Q3.lt;omega
  case Ax =>
   rintro x a' _ X X' row ⟨Bx,hb,h⟩ hg hr;refine ⟨Bx,hb.grown hg (fun e=>?_),h⟩
   obtain ⟨_,o,ho,hc⟩:=hr _ e.symm;unfold Bk at hb;rw [hb] at ho;cases ho;cases hc
  case assign =>
   rintro l pre x X K ⟨dn',v',h1,h2,h5,h6,h7⟩ hK;unfold stepEnc;gi_wp2;have hba:Below X.heap.size X (X.alloc (.cells #[.int .i64 x.1.1.out,.int .i64 x.1.1.side,.bool x.1.1.cut] 247)):=Ba;have hks:Bz L X (X.alloc (.cells #[.int .i64 x.1.1.out,.int .i64 x.1.1.side,.bool x.1.1.cut] 247)):=.of_below hba (by have:=h2.bel.size;omega)
   exact hK _ _ ((hks.others h1).from _) (hks.kps h1) ⟨dn',v',h1.below hba,h2.trans hks,h5,h6,h7.keep hba⟩ ⟨X.heap.size,Aa rfl,rfl⟩
  case body =>
   rintro l pre ⟨⟨m',o⟩,hx⟩ a' X hlz hrec ⟨dn',v',h1,h2,h5,h6,h7⟩ ⟨Bx,bX,rfl⟩ hlt;clear hrec h65 h3 S3 K3;have hnX:L.n<=X.heap.size:=by have:=h2.bel.size;omega
   obtain ⟨mo,ms,mc⟩:=m';simp only at bX h6 ⊢;cases o with
   | none =>
    unfold nextV;gi_wp2;exact ⟨KeepsFrom.refl _ _,⟨Below.refl _ _,fun _ _ _ _ _ h=>h⟩,dn',v',h1,h2,h5,(fun x hx' k hk=>by
     rcases List.mem_append.1 hx' with h | h
     ·exact h6 x h k hk
     ·rw [List.mem_singleton.1 h] at hk;cases hk),h7⟩
   | some k =>
    have hst:stepR f i k:=⟨_,hx⟩;have hkN:k<L.N:=by rw [HN.out];exact step_lt hok (by rw [<- HN.out];exact hH.out.hi) hst
    have hkI:(k:Int)<L.N:=by omega
    have hk1:((k:Int) == -1)=false:=by simp
    unfold nextV;simp only;have c0:=h1.bd.cell 0;have c1:=h1.cdn hkN;simp at c0;have HI:=Hd (Ai h5 h6);have HX:=Hd (show ∀ x∈pre ++ [(⟨(⟨mo,ms,mc⟩,some k),hx⟩:StepOf f i)],Ko f k->∀ j,x.1.2=some j->Ko f j from fun x hx' ha j hj=>by
     rcases List.mem_append.1 hx' with h | h
     ·exact h6 x h j hj
     ·rw [List.mem_singleton.1 h] at hj;injection hj with hj;subst hj;exact ha)
    clear h5 h6;cases hd:dn'.getD k false
    ·rw [hd] at c1;clear hd;have e0:=h1.bp.cell 0;simp at e0;have bx0:=bX.cell 0;have bx1:=bX.cell 1;have bx2:=bX.cell 2;simp at bx0 bx1 bx2;have BM:=buildMv X mo ms mc;obtain ⟨xs',hxs⟩:=h1.own;obtain ⟨i0,hi0,hz0,hz1,hz2⟩:=info_parts mvInfo;have hpb:p+1<=2001:=by have:=hH.out.cnt;omega
     have HXS:=Hd hxs;have H1:=Hd h1;have E:Hid (∀ j u,[Value.int .i64 mo,.int .i64 ms,.bool mc][j]?=some u->(X.alloc (.cells #[.int .i64 mo,.int .i64 ms,.bool mc] 247)).cell? ((⟨X.heap.size,0,none⟩:Addr).add j)=some u):=three_at X _ _ _ 247 _ rfl;have hne1:L.Bo≠L.Bp:=h1.bo.ne h1.bp (by decide)
     have hne2:L.gon≠L.Bp:=h1.ron.ne h1.bp (by decide)
     have hne3:L.Bs≠L.Bp:=h1.bs.ne h1.bp (by decide)
     have hne4:W.heap.size≠L.Bp:=by have:=hH.out.at_.bp.lt;omega
     have hne5:W.heap.size≠L.gon/\W.heap.size≠L.gd:=⟨hqs,by have:=hH.out.at_.rdn.lt;omega⟩
     have hq7:W.heap.size<X.heap.size:=h7.lt;have H7:=Hd h7;have hxb:Below X.heap.size X (X.alloc (.cells #[.int .i64 mo,.int .i64 ms,.bool mc] 247)):=Ba;have HXB:=Hd hxb;clear h1 h7 hxb;cases ho:(on.set i true).getD k false
     ·have HO:=Hd ho;clear ho;gi_wp2_with (gi_at_builtin;refine wpListIn_append_own _ rfl _ _ 155 rfl L.n 247 i0 _ 3 24 Tryz.underlying155 hi0 hz0 hz1 hz2 rfl (by decide) _ _ _ rfl (HXS.out.alloc _) ⟨X.heap.size,0,none⟩ 1 1 [.int .i64 mo,.int .i64 ms,.bool mc] rfl rfl E.out (by simp [Value.oneCell']) (by unfold maxLen;omega) (by omega) (by simp;omega) ?_;intro v6 w6 hown6 hg6 _;obtain ⟨g6,c6,rfl,_,_⟩:=own_row hown6 (by omega);obtain ⟨r0,r1,r2,r3,r4,r5⟩:=seek_mid (H1.out.below HXB.out) hg6 hkN HO.out;have HOWN:=Hd hown6;have HG6:=Hd hg6;clear hown6 hg6)
      have S6:=(H1.out.below HXB.out).row HG6.out ⟨_,HOWN.out⟩;have K6:Bz L X (w6.setCell ⟨L.Bp,0,none⟩ (.slice (some ⟨g6,0,none⟩) (p+1) c6)):=(Bz.of_below HXB.out hnX).trans ((Bz.row (H1.out.below HXB.out) (by simp;omega) HG6.out).trans (Bz.set hL _ (.inr (.inr rfl))))
      have Q6:=K6.bk H7.out hne5.1 hne5.2 hne4 (by decide)
      have hrc:∀ j,(on.set i true).getD j false=true->Rch f j k:=fun j hj=>by
       by_cases e:i=j
       ·subst e;exact .one hst
       ·rw [getD_set_ne _ _ e] at hj;exact (hH.out.rch j hj).snoc hst
      have hin:SeekIn f L w0 k (on.set i true) dn' (p+1) _ _:=⟨hkN,HO.out,S6,hH.out.bel.trans (h2.trans K6).bel,HI.out.1,hrc,by have:=hH.out.cnt;omega⟩
      have HIH:=Hd (ih k (on.set i true) dn' (p+1) _ _ (by omega) hin)
      clear hin hrc r0 r1 r2 r3 r4 r5 HOWN HG6 e0 bx0 bx1 bx2 BM c0 c1 ih;generalize w6.setCell ⟨L.Bp,0,none⟩ (.slice (some ⟨g6,0,none⟩) (p + 1) c6)=W6 at *;refine ⟨trivial,(CallsIn.inRound l (callsIn_wide.2 HIH.out)).mono ?_⟩;clear HIH;rintro e W8 (⟨dn8,v8,rfl,S8,K8,A8,ak⟩ | ⟨rfl,na,K8,ax,nx,cx,b8⟩)
      ·obtain ⟨xs8,ho8⟩:=S8.own;obtain ⟨g8,c8,rfl,_,_⟩:=own_row ho8 (by omega)
       have hcap:=(own_cap ho8).1;have hcapI:((p:Int))<=c8:=by omega
       have S9:=S8.setP ⟨_,own_init ho8⟩;have KK:Bz L X (W8.setCell ⟨L.Bp,0,none⟩ (.slice (some ⟨g8,0,none⟩) p c8)):=K6.trans (K8.trans (Bz.set hL _ (.inr (.inr rfl))));have r0:=S8.bp.cell 0;have r1:=S8.bp.fz 0;have r2:=S8.bp.lt;simp at r0;have Q9:=KK.bk H7.out hne5.1 hne5.2 hne4 (by decide)
       have HS9:=Hd S9;clear S9 S8 S6 K6 Q6 K8 ho8;gi_wp2;exact ⟨(KK.others H1.out).from _,KK.kps H1.out,dn8,_,HS9.out,h2.trans KK,A8,fun x hx' j hj=>HX.out x hx' ak j hj,Q9⟩
      ·have KK:=K6.trans K8;have Q9:=KK.bk H7.out hne5.1 hne5.2 hne4 (by decide)
       have r0:=Q9.cell 0;have r1:=Q9.fz 0;have r2:=Q9.lt;simp at r0;have B9:=b8.far (p:=⟨W.heap.size,0,none⟩) hne4.symm (.bool true);have Q10:=Q9.put 0 (.bool true);clear S6 K6 Q6 K8 b8 Q9;gi_wp2;exact ⟨((KK.others H1.out).trans (KeepsOthers.setCell _ _ _)).from _,rfl,fun h=>na (h.step hst),(h2.trans KK).grown (grownBy_setCell' _ _ _) hnW (fun r e=>by injection e with e;omega),⟨_,_,_,B9⟩,Q10⟩
     ·have HO:=Hd ho;clear ho;gi_wp2_with (gi_at_builtin;refine wpListIn_append_own _ rfl _ _ 155 rfl L.n 247 i0 _ 3 24 Tryz.underlying155 hi0 hz0 hz1 hz2 rfl (by decide) _ _ _ rfl (HXS.out.alloc _) ⟨X.heap.size,0,none⟩ 1 1 [.int .i64 mo,.int .i64 ms,.bool mc] rfl rfl E.out (by simp [Value.oneCell']) (by unfold maxLen;omega) (by omega) (by simp;omega) ?_;intro v6 w6 hown6 hg6 _;obtain ⟨g6,c6,rfl,_,_⟩:=own_row hown6 (by omega);obtain ⟨r0,r1,r2,r3,r4,r5⟩:=seek_mid (H1.out.below HXB.out) hg6 hkN HO.out;have HOWN:=Hd hown6;have HG6:=Hd hg6;clear hown6 hg6;have r6:=(((H7.out.alloc (.cells #[.int .i64 mo,.int .i64 ms,.bool mc] 247)).grown HG6.out (fun e=>((H1.out.below HXB.out).dis (H7.out.alloc _)).2.2 (by decide) e.symm)).cell 0);have r7:=(((H7.out.alloc (.cells #[.int .i64 mo,.int .i64 ms,.bool mc] 247)).grown HG6.out (fun e=>((H1.out.below HXB.out).dis (H7.out.alloc _)).2.2 (by decide) e.symm)).fz 0);have r8:=(((H7.out.alloc (.cells #[.int .i64 mo,.int .i64 ms,.bool mc] 247)).grown HG6.out (fun e=>((H1.out.below HXB.out).dis (H7.out.alloc _)).2.2 (by decide) e.symm)).lt);simp at r6)
      have S6:=(H1.out.below HXB.out).row HG6.out ⟨_,HOWN.out⟩;have K6:Bz L X (w6.setCell ⟨L.Bp,0,none⟩ (.slice (some ⟨g6,0,none⟩) (p+1) c6)):=(Bz.of_below HXB.out hnX).trans ((Bz.row (H1.out.below HXB.out) (by simp;omega) HG6.out).trans (Bz.set hL _ (.inr (.inr rfl))))
      have Q6:=K6.bk H7.out hne5.1 hne5.2 hne4 (by decide)
      have B9:=S6.bp.far (p:=⟨W.heap.size,0,none⟩) hne4.symm (.bool true);have Q10:=Q6.put 0 (.bool true);have hri:Rch f k i:=by
       by_cases e:i=k
       ·subst e;exact .one hst
       ·have:=HO.out;rw [getD_set_ne _ _ e] at this;exact hH.out.rch k this
      refine ⟨(fun f e=>by cases e),?_⟩
      have HS6:=Hd S6;have HK6:=Hd K6;clear S6 K6 Q6;gi_wp2;have K6:=HK6.out;exact ⟨((K6.others H1.out).trans (KeepsOthers.setCell _ _ _)).from _,rfl,fun h=>(h.step hst).irr (hri.snoc hst),(h2.trans K6).grown (grownBy_setCell' _ _ _) hnW (fun r e=>by injection e with e;omega),⟨_,_,_,B9⟩,Q10⟩
    ·rw [hd] at c1;have ha:Ko f k:=HI.out.1 k hd;clear hd;gi_wp2;exact ⟨KeepsFrom.refl _ _,⟨Below.refl _ _,fun _ _ _ _ _ h=>h⟩,dn',v',h1,h2,HI.out.1,(fun x hx' j hj=>HX.out x hx' ha j hj),h7⟩
  case done =>
   rintro D xs X hD rfl ⟨dn',v',h1,h2,h5,h6,h7⟩ hK;have hacc:Ko f i:=.mk (fun k ⟨m,hm⟩=>h6 ⟨(m,some k),hm⟩ (List.mem_attach _ _) k rfl)
   have K3s:=K3.bel.size;clear h65 h3 S3 K3 ih h6;have x0:=h1.bo.cell 0;have x1:=h1.bd.cell 0;have x2:=h1.con hH.out.hi;have x3:=h1.cdn hH.out.hi;have x4:=h1.ron.fz i;have x5:=h1.rdn.fz i;have x6:=h1.ron.lt;have x7:=h1.rdn.lt;have y0:=h7.cell 0;have y1:=h7.fz 0;have y2:=h7.lt;simp at x0 x1 y0;have hne:=hL.ne;have hne':=hL.ne.symm;have z1:L.Bd≠L.gon:=h1.bd.ne h1.ron (by decide)
   have z2:L.Bo≠L.gd:=h1.bo.ne h1.rdn (by decide)
   have z3:L.Bd≠L.gd:=h1.bd.ne h1.rdn (by decide)
   have z4:L.Bo≠L.gon:=h1.bo.ne h1.ron (by decide)
   have hqd:W.heap.size≠L.gd:=by have:=hH.out.at_.rdn.lt;omega
   have HX:=Hd (Ai h1 (Ai h2 (Ai h5 (Ai h7 hK))));clear h1 h2 h5 h7 hK;gi_wp2;go_wp2_with fail;go_region;obtain ⟨h1,h2,h5,h7,hK⟩:=HX.out;have S9:=((h1.setOn hL i false).setDn hL i true).drew;rw [HSB.out] at S9;have K9:Bz L X ((X.setCell ⟨L.gon,i,none⟩ (.bool false)).setCell ⟨L.gd,i,none⟩ (.bool true)).drew :=
    ((Bz.set hL (p:=⟨L.gon,i,none⟩) _ (.inl rfl)).trans (Bz.set hL (p:=⟨L.gd,i,none⟩) _ (.inr (.inl rfl)))).trans (.of_below ⟨rfl,rfl,rfl,Nat.le_refl _,fun _ _=>rfl⟩ (by have:=h2.bel.size;simp;omega))
   have K10:=h2.trans K9;have hK9:=(K9.others h1).same _ _ hK rfl;have hA9:∀ k,(dn'.set i true).getD k false=true->Ko f k:=fun k hk=>by
    by_cases e:i=k
    ·subst e;exact hacc
    ·rw [getD_set_ne _ _ e] at hk;exact h5 k hk
   have Q9:=K9.bk h7 hqs hqd (by have:=hH.out.at_.bp.lt;omega) (by decide)
   have hqP:W.heap.size≠L.Bp:=by have:=hH.out.at_.bp.lt;omega
   have hlo:L.Bf<W.heap.size/\L.Bd<W.heap.size/\L.Bo<W.heap.size/\L.Bs<W.heap.size:=⟨hH.out.at_.bf.lt,hH.out.at_.bd.lt,hH.out.at_.bo.lt,hH.out.at_.bs.lt⟩;have hdis:=(S9.dis Q9).2.2 (by decide)
   clear h1 h2 h5 h7 hK K9 x0 x1 x2 x3 x4 x5 x6 x7 y0 y1 y2 HX;generalize ((X.setCell ⟨L.gon,i,none⟩ (.bool false)).setCell ⟨L.gd,i,none⟩ (.bool true)).drew=Y at *;have y0:=Q9.cell 0;have y1:=Q9.fz 0;have y2:=Q9.lt;simp at y0;have hDq:D≠W.heap.size:=by have:=Q3.lt;omega
   have HS:=Hd (Ai S9 (Ai K10 (Ai hK9 Q9)));clear S9 K10 hK9 Q9;go_wp2_with fail;obtain ⟨S9,K10,hK9,Q9⟩:=HS.out;have S10:=S9.far (q:=⟨W.heap.size,0,none⟩) (.bool false) ⟨Nat.ne_of_gt hlo.1,Nat.ne_of_gt hlo.2.1,Nat.ne_of_gt hlo.2.2.1,Nat.ne_of_gt hlo.2.2.2,hqs,hqd,hqP,hdis⟩;have Q10:=Q9.put 0 (.bool false);have K11:=K10.grown (grownBy_setCell' Y W.heap.size (.bool false)) hnW (fun r e=>by injection e with e;omega)
   have hK':(Y.setCell ⟨W.heap.size,0,none⟩ (.bool false)).heap[D]?=some (.deferred (some [])):=(Below.heap_setCell _ ⟨W.heap.size,0,none⟩ _ _ hDq).trans hK9;generalize Y.setCell ⟨W.heap.size,0,none⟩ (.bool false)=F at *;have d2:Bk (F.putObj D (.deferred none)) W.heap.size 4 _:=(World.putObj_heap_other hDq.symm).trans Q10;have e2:=d2.cell 0;simp at e2;refine ⟨by simp,.inl ⟨_,_,rfl,run_takeDeferred hK',?_⟩⟩
   exact ⟨.bool false,by simp [results,Tryz.results195,go_sem,e2],.inl ⟨_,v',rfl,S10.grown (grownBy_putObj' _ _ _) (fun r e=>by injection e with e;subst e;exact ⟨_,hK',rfl⟩),K11.grown (grownBy_putObj' _ _ _) hnW (fun r e=>by injection e with e;have:=K3s;omega),hA9,hacc⟩⟩
  case stop =>
   rintro D c pre X hD hp ⟨rfl,h2,h4,⟨a,n,c',h5⟩,h6⟩ hK;gi_wp2;have hqD:W.heap.size≠D:=by have:=Q3.lt;omega
   have hpD:L.Bp≠D:=by have:=S3.bp.lt;omega
   have d2:Bk (X.putObj D (.deferred none)) W.heap.size 4 _:=(World.putObj_heap_other hqD).trans h6;have e2:=d2.cell 0;simp at e2;refine ⟨by simp,.inl ⟨_,_,rfl,run_takeDeferred hK,?_⟩⟩
   exact ⟨.bool true,by simp [results,Tryz.results195,go_sem,e2],.inr ⟨rfl,h2,h4.grown (grownBy_putObj' _ _ _) hnW (fun r e=>by injection e with e;have:=K3.bel.size;omega),a,n,c',(World.putObj_heap_other hpD).trans h5⟩⟩
end
section
open Go.RowKit Go.Shelf
attribute [local go_sem ↓] Ei Eh
theorem boolInfo:(Tryz.prog.info? 4).map (fun i=>(i.zero,i.size,i.bytes))=some (some (.bool false),1,1):=by kernel_rfl
theorem made_bools (s:Nat):(madeCells (Value.bool false).cells (s*1)).toList=Dp (List.replicate s false):=by
 rw [Nat.mul_one]
 show (madeCells #[Value.bool false] s).toList=_
 rw [toList_madeCells_one];simp [Dp]
theorem own_full {w:World} {base g n:Nat} {e:TypeId} {xs:List Value} (h:w.ownsRow base e 1 (.slice (some ⟨g,0,none⟩) n n) n xs):Bk w g e xs.toArray:=by
 rcases h.2 with ⟨h1,_⟩ | ⟨g',cap',cur,h1,hb,hg,hc,hm,hs,ht⟩
 ·cases h1
 ·simp only [Value.slice.injEq,Option.some.injEq,Addr.mk.injEq,and_true,true_and] at h1;obtain ⟨rfl,rfl⟩:=h1;have:cur=xs.toArray:=by
   rw [<- ht,List.take_of_length_le (by simp [hs])]
  rw [<- this];exact hg
def LoopP (f:Flr) (n gd i:Nat) (w:World) (e:Ending) (w':World):Prop :=
 Below n w w'/\KeepsOthers w w'/\KpS n w w'/\(∀ (q:Nat) (t:TypeId) (cs:Array Value),Bk w q t cs->q≠gd->t≠247->Bk w' q t cs)/\
 ((Ko f i/\e=.returned (.slice none 0 0)/\∃ dn',dn'.length=f.R*f.S*f.S/\Bk w' gd 4 (Dp dn').toArray/\∀ k,dn'.getD k false=true->Ko f k)\/(¬ Ko f i/\∃ a k c,e=.returned (.slice (some a) k c)))
theorem loop_any (f:Flr) (z:Hc) (b n gd N i:Nat) (dn:List Bool) (w0 w:World) (hf:Hu w0 b f z) (hok:f.Ok) (hN:N=f.R*f.S*f.S) (hw0:w0.heap.size=n) (hB:Below n w0 w) (hgd:n<=gd)
  (D:Bk w gd 4 (Dp dn).toArray) (hdl:dn.length=N) (hacc:∀ k,dn.getD k false=true->Ko f k) (hi:i<N) :
  Calls Tryz.prog 150 #[.pointer (some ⟨b,0,none⟩),.int .i64 i,.slice (some ⟨gd,0,none⟩) N N] w (LoopP f n gd i w):=by
 have hnw:n<=w.heap.size:=by have:=hB.size;omega
 have HST:=Hd (fun (X:World) (h:Below n w0 X)=>states_any b f z X (hf.below (by rw [hw0];exact h)) hok)
 rw [<- hN] at HST;have hNb:N<=256:=by rw [hN];exact Nat.mul_le_mul (Nat.mul_le_mul hok.r1 hok.s1) hok.s1
 obtain ⟨W,hW⟩:∃ W,(w.alloc (.cells #[.pointer (some ⟨b,0,none⟩)] 173)).alloc (.cells #[.slice (some ⟨gd,0,none⟩) N N] 266)=W:=⟨_,rfl⟩;have hbW:Below w.heap.size w W:=by rw [<- hW];exact Ba.alloc (by simp) _
 have X0:Bk W w.heap.size 173 #[.pointer (some ⟨b,0,none⟩)]:=by rw [<- hW];exact (Aa rfl).alloc _
 have X1:Bk W (w.heap.size+1) 266 #[.slice (some ⟨gd,0,none⟩) N N]:=by rw [<- hW];exact Aa (by simp)
 have x0:=X0.cell 0;simp at x0;have HW:=Hd hW;have HN:=Hd hN;have HW0:=Hd hw0;have HACC:=Hd hacc;clear hW hN hw0;obtain ⟨j0,hj0,jz0,jz1,jz2⟩:=info_parts boolInfo;have bb2:j0.bytes*N<=281474976710656:=by rw [jz2];omega
 have bb3:N<=maxLen:=by unfold maxLen;omega
 go_enter Tryz.func150,Tryz.ntmps150;go_upto_region 1 with fail
 rw [HW.out];clear HW;go_upto_region 5 with (first | (go_at_call 122;refine (HST.out W (hB.trans (hbW.mono hnw))).mono ?_;rintro e w1 ⟨rfl,hb1⟩) | (at_make;refine (wpList_make_full _ rfl _ _ 266 rfl w1.heap.size 4 j0 _ 1 Tryz.underlying266 hj0 jz0 jz1 .i64 .i64 _ _ N rfl rfl rfl rfl bb2 bb3 Le ?_);intro w2 hown hgr))
 rw [made_bools] at hown;have R2:=own_full hown;have hb1w:=hbW.trans (hb1.mono hbW.size);have hb2:Below w1.heap.size w1 w2:=⟨hgr.os,hgr.tape,hgr.output,hgr.size,fun k hk=>hgr.block k hk (by simp)⟩
 have hb2w:=hb1w.trans (hb2.mono hb1w.size);have hz1:=hb1w.size;have hz0:=hbW.size;have hgl:=R2.lt;have hWs:w.heap.size+1<W.heap.size:=X1.lt;have hW1:=hb1.size;obtain ⟨gon,hgon⟩:∃ g,w1.heap.size=g:=⟨_,rfl⟩;obtain ⟨q,hq⟩:∃ q,w.heap.size=q:=⟨_,rfl⟩;obtain ⟨Bo,hBo⟩:∃ q,w2.heap.size=q:=⟨_,rfl⟩;have Z0:=(X0.keep hb1).keep hb2;have Z1:=(X1.keep hb1).keep hb2;have Dw:=D.keep hb2w;have hgdl:=D.lt;rw [hgon] at R2 hz1 hgl hW1;rw [hq] at Z0 Z1 hz1 hz0 hWs hnw hgdl;rw [hBo] at hgl;rw [hgon,hq,hBo];obtain ⟨L,hL⟩:∃ L:Em,L=⟨N,n,b,q,q+1,Bo,Bo+1,Bo+1+1,gon,gd⟩:=⟨_,rfl⟩;have hfun:(Value.func (Fn.func 195) #[] #[.pointer (some ⟨Bo,0,none⟩),.pointer (some ⟨q,0,none⟩),.pointer (some ⟨q+1,0,none⟩),.pointer (some ⟨Bo+1,0,none⟩),.pointer (some ⟨Bo+1+1,0,none⟩)])=.func (.func 195) #[] L.caps:=by rw [hL];rfl
 rw [hfun];obtain ⟨W5,hW5⟩:∃ W5,((w2.alloc (.cells #[.slice (some ⟨gon,0,none⟩) N N] 266)).alloc (.cells #[.slice none 0 0] 155)).alloc (.cells #[.func (.func 195) #[] L.caps] 229)=W5:=⟨_,rfl⟩;rw [hW5];have hb5:Below w2.heap.size w2 W5:=by rw [<- hW5];exact (Ba.alloc (by simp) _).alloc (by simp;omega) _
 have hbw5:=hb2w.trans (hb5.mono hb2w.size);have S5:Fv L (List.replicate N false) dn 0 (.slice none 0 0) W5:=by
  rw [hL];refine ⟨Z0.keep hb5,Z1.keep hb5,?_,?_,R2.keep hb5,Dw.keep hb5,?_,⟨[],World.ownsRow_nil _ _ _ _⟩,by simp,hdl⟩
  ·rw [<- hW5];exact ((Aa hBo).alloc _).alloc _
  ·rw [<- hL,<- hW5];exact Aa (by simp [hL,hBo])
  ·rw [<- hW5];exact (Aa (by simp [hBo])).alloc _
 have hLok:L.Ok:=by rw [hL];exact ⟨by simp only;omega,hgd,by simp only;omega,by simp only;omega⟩
 have hLN:L.N=N:=by rw [hL]
 have hLn:L.n=n:=by rw [hL]
 have hLgd:L.gd=gd:=by rw [hL]
 have hLBp:L.Bp=Bo+1:=by rw [hL]
 have hLb:L.b=b:=by rw [hL]
 have hLgon:L.gon=gon:=by rw [hL]
 have hLc:L.caps=#[.pointer (some ⟨Bo,0,none⟩),.pointer (some ⟨q,0,none⟩),.pointer (some ⟨q+1,0,none⟩),.pointer (some ⟨Bo+1,0,none⟩),.pointer (some ⟨Bo+1+1,0,none⟩)]:=by rw [hL];rfl
 have y0:=S5.bd.cell 0;have y1:=S5.cdn (i:=i) (by rw [hLN];exact hi)
 have y2:=S5.bs.cell 0;have hBd:L.Bd=q+1:=by rw [hL]
 have hBs:L.Bs=Bo+1+1:=by rw [hL]
 rw [hBd,hLgd,hLN] at y0;rw [hLgd] at y1;rw [hBs] at y2;simp at y0 y2;have hcnt:(List.replicate N false).count false=N:=by simp
 have hin:SeekIn f L w0 i (List.replicate N false) dn 0 (.slice none 0 0) W5:=⟨by rw [hLN];exact hi,by simp [List.getD_eq_getElem?_getD,hi],S5,by rw [hLn];exact hB.trans (hbw5.mono (by omega)),hacc,fun k hk=>by
  rw [List.getD_eq_getElem?_getD,List.getElem?_replicate] at hk
  split at hk<;>simp at hk,by rw [hcnt];omega⟩
 have HSK:=Hd (seek_any f z L w0 hLok (by rw [hLb];exact hf) hok (by rw [hLN];exact HN.out) (by rw [hLn];exact HW0.out) N i (List.replicate N false) dn 0 (.slice none 0 0) W5 (by rw [hcnt];exact Nat.le_refl _) hin)
 have HS5:=Hd S5;have HBW:=Hd hbw5;have hLN2:L.N=N:=hLN;have HL:=Hd (Ai hLn (Ai hLgd (Ai hLBp (Ai hLgon hq))));have hiI:(i:Int)<N:=by omega
 clear hcnt hin S5 hbw5 hb5 hW5 hfun hL hLN hLn hLgd hLBp hLb hLgon hLc hBd hBs Z0 Z1 Dw D R2 hb1 hb2 hb1w hb2w hown hgr hgon hBo x0 X0 X1 hbW HST HW0;have hqw:=HL.out.2.2.2.2;have hP:∀ W8,Bz L W5 W8->Below n w W8/\KeepsOthers w W8/\KpS n w W8/\(∀ (q:Nat) (t:TypeId) (cs:Array Value),Bk w q t cs->q≠gd->t≠247->Bk W8 q t cs):=fun W8 K8=>by
  obtain ⟨hLn,hLgd,hLBp,hLgon,_⟩:=HL.out;refine ⟨(HBW.out.mono (by omega)).trans (by have:=K8.bel;rwa [hLn] at this),⟨Nat.le_trans HBW.out.size K8.bel.size,fun k o hk ho=>(K8.others HS5.out).same k o ((HBW.out.block k (Array.getElem?_eq_some_iff.1 hk).1).trans hk) ho⟩,?_,fun r t cs hr h1 h2=>?_⟩
  ·have hk1:=K8.kps HS5.out;rw [hLn] at hk1;exact KpS.trans ⟨HBW.out.mono (by omega),fun k cs t r _ hk=>(HBW.out.block k (Array.getElem?_eq_some_iff.1 hk).1).trans hk⟩ hk1
  have:=hr.lt;exact K8.bk (hr.keep HBW.out) (by omega) (by omega) (by omega) h2
 have HP:=Hd hP;clear hP hqw;have HDI:=Hd (fun h=>hacc i h)
 have HLN2:=Hd hLN2;clear hacc hLN2;cases hdi:dn.getD i false
 case' true =>
  rw [hdi] at y1;have ak:=HDI.out hdi;have D5:=HS5.out.rdn;have hl5:=HS5.out.ldn;have hgd5:=HL.out.2.1;have HEND:=Hd (Ai ak (Ai D5 (Ai hl5 hgd5)));clear hdi ak D5 hl5 hgd5 HSK;go_wp2_with fail;go_ret;obtain ⟨h1,h2,h4,h3⟩:=HP.out _ (Bz.refl L W5);obtain ⟨ak,D5,hl5,hgd5⟩:=HEND.out;rw [hgd5] at D5;exact ⟨h1,h2,h4,h3,.inl ⟨ak,rfl,dn,by rw [hl5,HLN2.out,HN.out],D5,HACC.out⟩⟩
 rw [hdi] at y1;clear hdi;go_wp2_with fail;refine (HSK.out).mono ?_;clear HSK;rintro e W8 (⟨dn8,v8,rfl,S8,K8,A8,ak⟩ | ⟨rfl,na,K8,ax,nx,cx,b8⟩)
 ·go_wp2_with fail;go_ret;obtain ⟨h1,h2,h4,h3⟩:=HP.out _ K8;have D8:=S8.rdn;rw [HL.out.2.1] at D8;exact ⟨h1,h2,h4,h3,.inl ⟨ak,rfl,dn8,by rw [S8.ldn,HLN2.out,HN.out],D8,A8⟩⟩
 ·rw [HL.out.2.2.1] at b8;have z0:=b8.cell 0;simp at z0;go_wp2_with fail;go_ret;obtain ⟨h1,h2,h4,h3⟩:=HP.out _ K8;exact ⟨h1,h2,h4,h3,.inr ⟨na,_,_,_,rfl⟩⟩
end
section
structure EvD where
 eh:Int
 en:Int
 note:Ab
def EvD.cells (e:EvD):List Value:=.int .i64 e.eh :: .int .i64 e.en :: e.note.arr.toList
theorem EvD.cells_len (e:EvD):e.cells.length=21:=rfl
def Ak (l:List EvD):List Value:=l.flatMap EvD.cells
structure Gg (w:World) (A:Option Addr) (l:List EvD):Prop where
 row:Ad w A (Ak l)
 str:∀ e∈l,e.note.At w
theorem Gg.below {w w':World} {A:Option Addr} {l:List EvD} (h:Gg w A l) (hb:Below w.heap.size w w'):Gg w' A l :=
 ⟨h.row.below hb,fun e he=>(h.str e he).below hb⟩
def Bq:Ab:=⟨0,0,0,0,0,0,0,0,0,0,0,0,0,0,0,[],none,0,0,0,0⟩
def ev0:EvD:=⟨0,0,Bq⟩
theorem ev_row {w:World} {A:Option Addr} {l:List EvD} (h:Ad w A (Ak l)) (h0:0<l.length) :
  ∃ b off,A=some ⟨b,off,none⟩/\b<w.heap.size/\∀ k,k<l.length->∀ j u,(l.getD k ev0).cells[j]?=some u->w.cell? ⟨b,off+k*21+j,none⟩=some u:=by
 have hl:(Ak l).length=l.length*21:=Ci _ 21 (fun _=>rfl) l
 obtain ⟨b,off,h1,h2,h3⟩:=h.some_ (by omega)
 refine ⟨b,off,h1,h2,fun k hk j u hu=>?_⟩
 have hj:j<21:=(List.getElem?_eq_some_iff.1 hu).1;have e:=Cw EvD.cells 21 (fun _=>rfl) (by omega) l k j hk hj
 rw [Aj _ _ hk] at hu;rw [Nat.add_assoc];exact h3 (k*21+j) u (e.trans hu)
def Dv (A1:Option Addr) (n1 c1:Nat) (A2:Option Addr) (n2 c2:Nat) (A3:Option Addr) (n3 c3:Nat):Value:=.agg #[.slice A1 n1 c1,.slice A2 n2 c2,.slice A3 n3 c3]
def lightN (l:List EvD):Nat:=(l.map fun e=>e.note.strokes.length).sum
theorem lightN_take (l:List EvD) (k:Nat) (hk:k<l.length):lightN (l.take (k+1))=lightN (l.take k)+(l.getD k ev0).note.strokes.length:=by
 unfold lightN;rw [List.take_succ_eq_append_getElem hk,List.map_append,List.sum_append,Aj _ _ hk];simp
theorem lightN_bd (l:List EvD) (h:∀ e∈l,e.note.strokes.length<=1000):lightN l<=l.length*1000:=by
 unfold lightN
 induction l with
 | nil=>simp
 | cons a l ih =>
  have h1:=ih (fun e he=>h e (by simp [he]))
  have h2:=h a (by simp)
  simp only [List.map_cons,List.sum_cons,List.length_cons,Nat.add_mul];omega
theorem lightN_le (l:List EvD):∀ e∈l,e.note.strokes.length<=lightN l:=by
 unfold lightN
 induction l with
 | nil=>intro e he;cases he
 | cons a l ih =>
  intro e he;simp only [List.map_cons,List.sum_cons];rcases List.mem_cons.1 he with rfl | he
  ·omega
  ·have:=ih e he;omega
theorem lightEvents_any (A1 A2 A3:Option Addr) (n1 c1 c2 n3 c3:Nat) (l:List EvD) (w:World) (hL:Ad w A2 (Ak l)) (hn:l.length<=10) (hs:∀ e∈l,e.note.strokes.length<=1000) :
  Calls Tryz.prog 31 #[Dv A1 n1 c1 A2 l.length c2 A3 n3 c3] w fun e w'=>e=.returned (.bool (decide (lightN l<=100)))/\Below w.heap.size w w':=by
 unfold Dv;obtain ⟨W,hW⟩:∃ W,w.alloc (.cells #[.slice A1 n1 c1,.slice A2 l.length c2,.slice A3 n3 c3] 49)=W:=⟨_,rfl⟩;have hbW:Below w.heap.size w W:=by rw [<- hW];exact Ba
 have X:=(show Bk W w.heap.size 49 #[.slice A1 n1 c1,.slice A2 l.length c2,.slice A3 n3 c3] by rw [<- hW];exact Aa rfl)
 have x1:=X.cell 1;simp at x1;have HW:=Hd hW;have HL:=Hd (hL.below hbW);have HS:=Hd hs;clear hW X hL hs;go_enter Tryz.func31,Tryz.ntmps31;go_upto_region 1 with fail
 rw [HW.out];clear HW;go_wp2_with fail;go_loopw [3,4] (fun v i wr=>W=wr/\∃ k:Nat,k<=l.length/\i=.int .i64 k/\v=.int .i64 (lightN (l.take k))) (fun _ i _=>l.length - (intOf i).toNat)
 case atStart=>exact ⟨rfl,0,Nat.zero_le _,rfl,rfl⟩
 case round =>
  obtain ⟨rfl,k,hk,rfl,rfl⟩:=hrel;have hbd:=lightN_bd (l.take k) (fun e he=>HS.out e (List.mem_of_mem_take he))
  rw [List.length_take,Nat.min_eq_left hk] at hbd
  by_cases hlt:k<l.length
  ·have hkI:(k:Int)<l.length:=by omega
   obtain ⟨b,off,hA,hb,hc⟩:=ev_row HL.out (by omega)
   have c15:=hc k hlt 17 (.slice (l.getD k ev0).note.sA (l.getD k ev0).note.strokes.length (l.getD k ev0).note.sc) rfl;rw [hA] at x1;rw [hA];have hm:=HS.out _ (Cg ev0 hlt);have HT:=Hd (lightN_take l k hlt);clear hA hc;generalize (l.getD k ev0).note.strokes.length=m at *;generalize lightN (l.take k)=s at *;have hw1:=IntWalk.i64_in ((s:Int)+m) (by omega)
   go_wp2_with fail;go_roundw
   case rel=>exact ⟨trivial,k+1,by omega,by go_num,by rw [HT.out];go_num⟩
   case measure=>simp [intOf];omega
  ·obtain rfl:k=l.length:=by omega
   rw [List.take_of_length_le Le] at hbd ⊢;go_wp2_with fail;go_ret;exact ⟨Af (by simp;omega),hbW⟩
end
section
attribute [local go_sem ↓] Ei Eh
def hitB (f:Flr) (i:Nat):Bool:=(Ju f (Cv f.R f.S i) (Eo f.S i) (Cq f.R f.S i)).any (fun m=>m.cut)
def ixOf (f:Flr) (ixF:Flr->Nat->Nat->Nat->Nat) (i:Nat):Nat:=ixF f (Cv f.R f.S i) (Eo f.S i) (Cq f.R f.S i)
def Gx (f:Flr) (ixF:Flr->Nat->Nat->Nat->Nat):Nat->List Int
 | 0=>List.replicate (f.R*f.S) 0
 | k+1=>if hitB f k then (Gx f ixF k).set (ixOf f ixF k) ((Gx f ixF k).getD (ixOf f ixF k) 0+1) else Gx f ixF k
theorem cntL_len (f:Flr) (ixF:Flr->Nat->Nat->Nat->Nat):∀ k,(Gx f ixF k).length=f.R*f.S
 | 0=>by simp [Gx]
 | k+1=>by
  have:=cntL_len f ixF k;simp only [Gx]
  split<;>simp [this]
theorem cntL_bd (f:Flr) (ixF:Flr->Nat->Nat->Nat->Nat):∀ k c,0<=(Gx f ixF k).getD c 0/\(Gx f ixF k).getD c 0<=k
 | 0,c=>by
  simp only [Gx,List.getD_eq_getElem?_getD,List.getElem?_replicate]
  split<;>simp
 | k+1,c=>by
  have h1:=cntL_bd f ixF k c;have h2:=cntL_bd f ixF k (ixOf f ixF k);simp only [Gx]
  split
  ·simp only [List.getD_eq_getElem?_getD,List.getElem?_set] at h1 h2 ⊢
   split
   ·split
    ·simp only [Option.getD_some];omega
    ·simp;omega
   ·omega
  ·omega
theorem intRow_set (l:List Int) (i:Nat) (x:Int):(Ac l).toArray.setIfInBounds i (.int .i64 x)=(Ac (l.set i x)).toArray:=by
 rw [List.setIfInBounds_toArray];simp [Ac,List.map_set]
theorem intRow_cell {W:World} {g:Nat} {l:List Int} (h:Bk W g 3 (Ac l).toArray) {k:Nat} (hk:k<l.length):W.cell? ⟨g,k,none⟩=some (.int .i64 (l.getD k 0)):=by
 rw [h.cell k];simp [Ac,List.getD_eq_getElem?_getD,hk]
theorem intInfo:(Tryz.prog.info? 3).map (fun i=>(i.zero,i.size,i.bytes))=some (some (.int .i64 0),1,8):=by kernel_rfl
theorem made_ints (s:Nat):(madeCells (Value.int .i64 0).cells (s*1)).toList=Ac (List.replicate s 0):=by
 rw [Nat.mul_one]
 show (madeCells #[Value.int .i64 0] s).toList=_
 rw [toList_madeCells_one];simp [Ac]
theorem bedCounts_any (b q:Nat) (f:Flr) (z:Hc) (w:World) (hf:Hu w b f z) (hok:f.Ok) (hq:Bk w q 173 #[.pointer (some ⟨b,0,none⟩)]) (hix:∀ i,i<f.R*f.S*f.S->ixOf f Eu i<f.R*f.S) :
  Calls Tryz.prog 79 #[.pointer (some ⟨b,0,none⟩),.func (.func 82) #[] #[.pointer (some ⟨q,0,none⟩)]] w fun e w'=>∃ g,e=.returned (.slice (some ⟨g,0,none⟩) (f.R*f.S) (f.R*f.S))/\Bk w' g 3 (Ac (Gx f Eu (f.R*f.S*f.S))).toArray/\Below w.heap.size w w':=by
 have hNb:f.R*f.S*f.S<=256:=Nat.mul_le_mul (Nat.mul_le_mul hok.r1 hok.s1) hok.s1;have hM:f.R*f.S<=32:=Nat.mul_le_mul hok.r1 hok.s1;have HF:=Hd hf;have HOK:=Hd hok;have HQ:=Hd hq;have HIX:=Hd hix;obtain ⟨j0,hj0,jz0,jz1,jz2⟩:=info_parts intInfo;have x0:=hf.cR;have x1:=hf.cS;have hbl:=hf.blk.lt;obtain ⟨M,hMe⟩:∃ M,f.R*f.S=M:=⟨_,rfl⟩;obtain ⟨N,hNe⟩:∃ N,f.R*f.S*f.S=N:=⟨_,rfl⟩;have hw1:=IntWalk.i64_in ((f.R:Int)*f.S) (by rw [show (f.R:Int)*f.S=((f.R*f.S:Nat):Int) by simp];omega)
 have hcast:(f.R:Int)*f.S=(M:Int):=by rw [<- hMe];simp
 rw [hcast] at hw1;have HST:=Hd (fun (X:World) (h:Below w.heap.size w X)=>states_any b f z X (hf.below h) hok)
 rw [hNe] at HST hNb;rw [hMe] at hM;have bb2:j0.bytes*M<=281474976710656:=by rw [jz2];omega
 have bb3:M<=maxLen:=by unfold maxLen;omega
 have HME:=Hd hMe;have HNE:=Hd hNe;rw [hNe,hMe];clear hMe hNe hf hok hq hix;go_enter Tryz.func79,Tryz.ntmps79;go_upto_region 1 with fail
 refine By 9 (by kernel_rfl) (by kernel_rfl) (fun _ _ d _ _ h=>by cases d<;>exact h) ?_
 simp only [List.take_succ_cons,List.take_zero,List.drop_succ_cons,List.drop_zero];replace x0:=fun x:Ext w=>Ag x.bel x0
 replace x1:=fun x:Ext w=>Ag x.bel x1
 repeat (go_big_quiet_step (fail))
 refine wpQuiet_nil ?_;rintro _ ⟨y,rfl⟩;clear x0 x1;have hb1:=y.bel;generalize y.w=w1 at hb1 ⊢;clear hcast hw1;have hbs1:=hb1.size;go_wp2_with (first | (at_make;refine (wpList_make_full _ rfl _ _ 22 rfl w1.heap.size 3 j0 _ 1 Tryz.underlying22 hj0 jz0 jz1 .i64 .i64 _ _ M rfl rfl rfl rfl bb2 bb3 Le ?_);intro w2 hown hgr;have hb2:Below w1.heap.size w1 w2:=⟨hgr.os,hgr.tape,hgr.output,hgr.size,fun k hk=>hgr.block k hk (by simp)⟩;have hB2:=hb1.trans (hb2.mono hbs1)) | (go_at_call 122;refine (HST.out _ hB2).mono ?_;rintro e w3 ⟨rfl,hb3⟩))
 rw [made_ints] at hown;have R2:=(own_full hown).keep hb3;have hB3:=hB2.trans (hb3.mono hB2.size);obtain ⟨g,hg⟩:∃ g,w1.heap.size=g:=⟨_,rfl⟩;rw [hg] at R2;rw [hg];have hwg:w.heap.size<=g:=by omega
 clear hown hgr hb2 hb3 hB2 hb1 hbs1 hg HST;have HR0:Hid (List.replicate M (0:Int)=Gx f Eu 0):=by rw [<- HME.out];rfl
 rw [HR0.out] at R2;clear HR0;go_loopw [20] (fun ix wr=>∃ k:Nat,k<=N/\ix=.int .i64 k/\Below w.heap.size w wr/\Bk wr g 3 (Ac (Gx f Eu k)).toArray) (fun ix _=>N - (intOf ix).toNat)
 case atStart=>exact ⟨0,Nat.zero_le _,rfl,hB3,R2⟩
 case round =>
  clear R2 hB3;obtain ⟨k,hk,rfl,hB,R⟩:=hrel
  by_cases hlt:k<N
  ·have hkI:(k:Int)<N:=by omega
   obtain ⟨e1,e2,e3,e4⟩:=state_lt HOK.out (i:=k) (by rw [HNE.out];exact hlt)
   have k3:=(kinds_in HOK.out (turn:=Cq f.R f.S k) e1 e2).2.2;have HS1:=Hd (state_any b f z k wr (HF.out.below hB) HOK.out e4);have HM1:=Hd (fun (X:World) (h:Below w.heap.size w X)=>moves_any b f z _ _ _ X (HF.out.below h) HOK.out e1 e2 e3)
   have HC1:=Hd (fun (X:World) (h:Below w.heap.size w X)=>contains42_any (z.dr.getD (Kf f (Cv f.R f.S k) (Eo f.S k) (Cq f.R f.S k)) (none,0)).1 (z.dr.getD (Kf f (Cv f.R f.S k) (Eo f.S k) (Cq f.R f.S k)) (none,0)).2 (Ju f (Cv f.R f.S k) (Eo f.S k) (Cq f.R f.S k)) X ((HF.out.below h).drv _ k3) (by
    have:=(HOK.out.dk _ (Cg [] (show Kf f (Cv f.R f.S k) (Eo f.S k) (Cq f.R f.S k)<f.drive.length by rw [HOK.out.dl];exact k3))).2.1
    unfold Ju;omega))
   have HI1:=Hd (fun (X:World) (h:Below w.heap.size w X)=>bedIx_any b q f z _ _ _ X (HF.out.below h) HOK.out e1 e2 e3 (HQ.out.keep h))
   have hixk:=HIX.out k (by rw [HNE.out];exact hlt)
   rw [HME.out] at hixk;have hbd:=cntL_bd f Eu k (ixOf f Eu k);have hcl:=cntL_len f Eu k;rw [HME.out] at hcl;have HN1:Hid (Gx f Eu (k+1)=if hitB f k then (Gx f Eu k).set (ixOf f Eu k) ((Gx f Eu k).getD (ixOf f Eu k) 0+1) else Gx f Eu k):=rfl
   have hrc:=intRow_cell R (k:=ixOf f Eu k) (by omega)
   change Hid (∀ X,Below w.heap.size w X->Calls Tryz.prog 124 _ X fun e w'=>e=.returned (.bool (hitB f k))/\_) at HC1
   change Hid (∀ X,Below w.heap.size w X->Calls Tryz.prog 82 _ X fun e w'=>e=.returned (.int .i64 (ixOf f Eu k))/\_) at HI1
   unfold drCell at HM1;change Hid (∀ X,Below w.heap.size w X->Calls Tryz.prog 125 _ X fun e w'=>e=.returned (.slice (z.dr.getD (Kf f (Cv f.R f.S k) (Eo f.S k) (Cq f.R f.S k)) (none,0)).1 (Ju f (Cv f.R f.S k) (Eo f.S k) (Cq f.R f.S k)).length (z.dr.getD (Kf f (Cv f.R f.S k) (Eo f.S k) (Cq f.R f.S k)) (none,0)).2)/\_) at HM1
   unfold stV at HS1 HM1 HI1;have HRR:=Hd R;clear R e1 e2 e3 e4 k3;generalize (z.dr.getD (Kf f (Cv f.R f.S k) (Eo f.S k) (Cq f.R f.S k)) (none,0)).1=A at *;generalize (z.dr.getD (Kf f (Cv f.R f.S k) (Eo f.S k) (Cq f.R f.S k)) (none,0)).2=cc at *;generalize (Ju f (Cv f.R f.S k) (Eo f.S k) (Cq f.R f.S k)).length=ml at *;generalize Cv f.R f.S k=ring at *;generalize Eo f.S k=sec at *;generalize Cq f.R f.S k=turn at *;generalize ixOf f Eu k=ix at *;generalize (Gx f Eu k).getD ix 0=cv at *;go_upto_region 6 with (go_at_call 123;refine (HS1.out).mono ?_;rintro e w5 ⟨rfl,hb5⟩)
   have S4:Bk (w5.alloc (.cells #[.int .i64 ring,.int .i64 sec,.int .i64 turn] 178)) w5.heap.size 178 #[.int .i64 ring,.int .i64 sec,.int .i64 turn]:=Aa rfl;have hb6:Below w5.heap.size w5 (w5.alloc (.cells #[.int .i64 ring,.int .i64 sec,.int .i64 turn] 178)):=Ba;have hb56:=hb5.trans (hb6.mono hb5.size);generalize w5.alloc (.cells #[.int .i64 ring,.int .i64 sec,.int .i64 turn] 178)=w6 at *;generalize w5.heap.size=q4 at *;have hB6:=hB.trans (hb56.mono hB.size);have s0:=S4.cell 0;have s1:=S4.cell 1;have s2:=S4.cell 2;simp at s0 s1 s2;have HCV:=Hd hrc;clear hb5 hb6 HS1 hrc;go_wp2_with fail;refine (HM1.out _ hB6).mono ?_;rintro e w7 ⟨rfl,hb7⟩;have hB7:=hB6.trans (hb7.mono hB6.size);have hb57:=hb56.trans (hb7.mono hb56.size);replace S4:=S4.keep hb7;clear s0 s1 s2 hb7 hB6 hb56 HM1;go_wp2_with fail;refine (HC1.out _ hB7).mono ?_;rintro e w8 ⟨rfl,hb8⟩;have hB8:=hB7.trans (hb8.mono hB7.size);have hb58:=hb57.trans (hb8.mono hb57.size);replace S4:=S4.keep hb8;clear hb8 hB7 hb57 HC1;have R8:=HRR.out.keep hb58;cases hh:hitB f k
   ·have HH:=Hd hh;clear hh S4;have HN2:Hid (Gx f Eu (k+1)=Gx f Eu k):=by rw [Hid,HN1.out,HH.out];rfl
    go_wp2_with fail;go_roundw
    case rel=>exact ⟨k+1,by omega,by go_num,hB8,by rw [HN2.out];exact R8⟩
    case measure=>simp [intOf];omega
   ·have HH:=Hd hh;clear hh;have HN2:Hid (Gx f Eu (k+1)=(Gx f Eu k).set ix (cv+1)):=by rw [Hid,HN1.out,HH.out];rfl
    have s0:=S4.cell 0;have s1:=S4.cell 1;have s2:=S4.cell 2;simp at s0 s1 s2;have HR8:=Hd R8;clear R8 HN1;go_wp2_with (go_at_call 82;refine (HI1.out _ hB8).mono ?_;rintro e w9 ⟨rfl,hb9⟩;have R9:=HR8.out.keep hb9;have t1:=R9.fz ix;have t2:=R9.lt;have hrl:w9.cell? ⟨g,ix,none⟩=some (.int .i64 cv):=(by have h1:=R9.cell ix;have h2:=HRR.out.cell ix;rw [h1,<- h2];exact HCV.out);have hixI:(ix:Int)<M:=(by omega);have HR9:=Hd R9;clear R9)
    have hB9:=hB8.trans (hb9.mono hB8.size);have HB10:=Hd (hB9.setCell (p:=⟨g,ix,none⟩) hwg (.int .i64 (cv+1)));have P9:=HR9.out.put ix (.int .i64 (cv+1));rw [intRow_set] at P9;have HP9:=Hd P9;clear P9 t1 t2 hrl s0 s1 s2;go_roundw
    case rel=>exact ⟨k+1,by omega,by go_num,HB10.out,by rw [HN2.out];exact HP9.out⟩
    case measure=>simp [intOf];omega
  ·obtain rfl:k=N:=by omega
   go_wp2_with fail;go_ret;exact ⟨g,rfl,R,hB⟩
theorem runCounts_any (b q:Nat) (f:Flr) (z:Hc) (w:World) (hf:Hu w b f z) (hok:f.Ok) (hq:Bk w q 173 #[.pointer (some ⟨b,0,none⟩)]) (hix:∀ i,i<f.R*f.S*f.S->ixOf f Er i<f.R*f.S) :
  Calls Tryz.prog 79 #[.pointer (some ⟨b,0,none⟩),.func (.func 80) #[] #[.pointer (some ⟨q,0,none⟩)]] w fun e w'=>∃ g,e=.returned (.slice (some ⟨g,0,none⟩) (f.R*f.S) (f.R*f.S))/\Bk w' g 3 (Ac (Gx f Er (f.R*f.S*f.S))).toArray/\Below w.heap.size w w':=by
 have hNb:f.R*f.S*f.S<=256:=Nat.mul_le_mul (Nat.mul_le_mul hok.r1 hok.s1) hok.s1;have hM:f.R*f.S<=32:=Nat.mul_le_mul hok.r1 hok.s1;have HF:=Hd hf;have HOK:=Hd hok;have HQ:=Hd hq;have HIX:=Hd hix;obtain ⟨j0,hj0,jz0,jz1,jz2⟩:=info_parts intInfo;have x0:=hf.cR;have x1:=hf.cS;have hbl:=hf.blk.lt;obtain ⟨M,hMe⟩:∃ M,f.R*f.S=M:=⟨_,rfl⟩;obtain ⟨N,hNe⟩:∃ N,f.R*f.S*f.S=N:=⟨_,rfl⟩;have hw1:=IntWalk.i64_in ((f.R:Int)*f.S) (by rw [show (f.R:Int)*f.S=((f.R*f.S:Nat):Int) by simp];omega)
 have hcast:(f.R:Int)*f.S=(M:Int):=by rw [<- hMe];simp
 rw [hcast] at hw1;have HST:=Hd (fun (X:World) (h:Below w.heap.size w X)=>states_any b f z X (hf.below h) hok)
 rw [hNe] at HST hNb;rw [hMe] at hM;have bb2:j0.bytes*M<=281474976710656:=by rw [jz2];omega
 have bb3:M<=maxLen:=by unfold maxLen;omega
 have HME:=Hd hMe;have HNE:=Hd hNe;rw [hNe,hMe];clear hMe hNe hf hok hq hix;go_enter Tryz.func79,Tryz.ntmps79;go_upto_region 1 with fail
 refine By 9 (by kernel_rfl) (by kernel_rfl) (fun _ _ d _ _ h=>by cases d<;>exact h) ?_
 simp only [List.take_succ_cons,List.take_zero,List.drop_succ_cons,List.drop_zero];replace x0:=fun x:Ext w=>Ag x.bel x0
 replace x1:=fun x:Ext w=>Ag x.bel x1
 repeat (go_big_quiet_step (fail))
 refine wpQuiet_nil ?_;rintro _ ⟨y,rfl⟩;clear x0 x1;have hb1:=y.bel;generalize y.w=w1 at hb1 ⊢;clear hcast hw1;have hbs1:=hb1.size;go_wp2_with (first | (at_make;refine (wpList_make_full _ rfl _ _ 22 rfl w1.heap.size 3 j0 _ 1 Tryz.underlying22 hj0 jz0 jz1 .i64 .i64 _ _ M rfl rfl rfl rfl bb2 bb3 Le ?_);intro w2 hown hgr;have hb2:Below w1.heap.size w1 w2:=⟨hgr.os,hgr.tape,hgr.output,hgr.size,fun k hk=>hgr.block k hk (by simp)⟩;have hB2:=hb1.trans (hb2.mono hbs1)) | (go_at_call 122;refine (HST.out _ hB2).mono ?_;rintro e w3 ⟨rfl,hb3⟩))
 rw [made_ints] at hown;have R2:=(own_full hown).keep hb3;have hB3:=hB2.trans (hb3.mono hB2.size);obtain ⟨g,hg⟩:∃ g,w1.heap.size=g:=⟨_,rfl⟩;rw [hg] at R2;rw [hg];have hwg:w.heap.size<=g:=by omega
 clear hown hgr hb2 hb3 hB2 hb1 hbs1 hg HST;have HR0:Hid (List.replicate M (0:Int)=Gx f Er 0):=by rw [<- HME.out];rfl
 rw [HR0.out] at R2;clear HR0;go_loopw [20] (fun ix wr=>∃ k:Nat,k<=N/\ix=.int .i64 k/\Below w.heap.size w wr/\Bk wr g 3 (Ac (Gx f Er k)).toArray) (fun ix _=>N - (intOf ix).toNat)
 case atStart=>exact ⟨0,Nat.zero_le _,rfl,hB3,R2⟩
 case round =>
  clear R2 hB3;obtain ⟨k,hk,rfl,hB,R⟩:=hrel
  by_cases hlt:k<N
  ·have hkI:(k:Int)<N:=by omega
   obtain ⟨e1,e2,e3,e4⟩:=state_lt HOK.out (i:=k) (by rw [HNE.out];exact hlt)
   have k3:=(kinds_in HOK.out (turn:=Cq f.R f.S k) e1 e2).2.2;have HS1:=Hd (state_any b f z k wr (HF.out.below hB) HOK.out e4);have HM1:=Hd (fun (X:World) (h:Below w.heap.size w X)=>moves_any b f z _ _ _ X (HF.out.below h) HOK.out e1 e2 e3)
   have HC1:=Hd (fun (X:World) (h:Below w.heap.size w X)=>contains42_any (z.dr.getD (Kf f (Cv f.R f.S k) (Eo f.S k) (Cq f.R f.S k)) (none,0)).1 (z.dr.getD (Kf f (Cv f.R f.S k) (Eo f.S k) (Cq f.R f.S k)) (none,0)).2 (Ju f (Cv f.R f.S k) (Eo f.S k) (Cq f.R f.S k)) X ((HF.out.below h).drv _ k3) (by
    have:=(HOK.out.dk _ (Cg [] (show Kf f (Cv f.R f.S k) (Eo f.S k) (Cq f.R f.S k)<f.drive.length by rw [HOK.out.dl];exact k3))).2.1
    unfold Ju;omega))
   have HI1:=Hd (fun (X:World) (h:Below w.heap.size w X)=>runIx_any b q f z _ _ _ X (HF.out.below h) HOK.out e1 e2 e3 (HQ.out.keep h))
   have hixk:=HIX.out k (by rw [HNE.out];exact hlt)
   rw [HME.out] at hixk;have hbd:=cntL_bd f Er k (ixOf f Er k);have hcl:=cntL_len f Er k;rw [HME.out] at hcl;have HN1:Hid (Gx f Er (k+1)=if hitB f k then (Gx f Er k).set (ixOf f Er k) ((Gx f Er k).getD (ixOf f Er k) 0+1) else Gx f Er k):=rfl
   have hrc:=intRow_cell R (k:=ixOf f Er k) (by omega)
   change Hid (∀ X,Below w.heap.size w X->Calls Tryz.prog 124 _ X fun e w'=>e=.returned (.bool (hitB f k))/\_) at HC1
   change Hid (∀ X,Below w.heap.size w X->Calls Tryz.prog 80 _ X fun e w'=>e=.returned (.int .i64 (ixOf f Er k))/\_) at HI1
   unfold drCell at HM1;change Hid (∀ X,Below w.heap.size w X->Calls Tryz.prog 125 _ X fun e w'=>e=.returned (.slice (z.dr.getD (Kf f (Cv f.R f.S k) (Eo f.S k) (Cq f.R f.S k)) (none,0)).1 (Ju f (Cv f.R f.S k) (Eo f.S k) (Cq f.R f.S k)).length (z.dr.getD (Kf f (Cv f.R f.S k) (Eo f.S k) (Cq f.R f.S k)) (none,0)).2)/\_) at HM1
   unfold stV at HS1 HM1 HI1;have HRR:=Hd R;clear R e1 e2 e3 e4 k3;generalize (z.dr.getD (Kf f (Cv f.R f.S k) (Eo f.S k) (Cq f.R f.S k)) (none,0)).1=A at *;generalize (z.dr.getD (Kf f (Cv f.R f.S k) (Eo f.S k) (Cq f.R f.S k)) (none,0)).2=cc at *;generalize (Ju f (Cv f.R f.S k) (Eo f.S k) (Cq f.R f.S k)).length=ml at *;generalize Cv f.R f.S k=ring at *;generalize Eo f.S k=sec at *;generalize Cq f.R f.S k=turn at *;generalize ixOf f Er k=ix at *;generalize (Gx f Er k).getD ix 0=cv at *;go_upto_region 6 with (go_at_call 123;refine (HS1.out).mono ?_;rintro e w5 ⟨rfl,hb5⟩)
   have S4:Bk (w5.alloc (.cells #[.int .i64 ring,.int .i64 sec,.int .i64 turn] 178)) w5.heap.size 178 #[.int .i64 ring,.int .i64 sec,.int .i64 turn]:=Aa rfl;have hb6:Below w5.heap.size w5 (w5.alloc (.cells #[.int .i64 ring,.int .i64 sec,.int .i64 turn] 178)):=Ba;have hb56:=hb5.trans (hb6.mono hb5.size);generalize w5.alloc (.cells #[.int .i64 ring,.int .i64 sec,.int .i64 turn] 178)=w6 at *;generalize w5.heap.size=q4 at *;have hB6:=hB.trans (hb56.mono hB.size);have s0:=S4.cell 0;have s1:=S4.cell 1;have s2:=S4.cell 2;simp at s0 s1 s2;have HCV:=Hd hrc;clear hb5 hb6 HS1 hrc;go_wp2_with fail;refine (HM1.out _ hB6).mono ?_;rintro e w7 ⟨rfl,hb7⟩;have hB7:=hB6.trans (hb7.mono hB6.size);have hb57:=hb56.trans (hb7.mono hb56.size);replace S4:=S4.keep hb7;clear s0 s1 s2 hb7 hB6 hb56 HM1;go_wp2_with fail;refine (HC1.out _ hB7).mono ?_;rintro e w8 ⟨rfl,hb8⟩;have hB8:=hB7.trans (hb8.mono hB7.size);have hb58:=hb57.trans (hb8.mono hb57.size);replace S4:=S4.keep hb8;clear hb8 hB7 hb57 HC1;have R8:=HRR.out.keep hb58;cases hh:hitB f k
   ·have HH:=Hd hh;clear hh S4;have HN2:Hid (Gx f Er (k+1)=Gx f Er k):=by rw [Hid,HN1.out,HH.out];rfl
    go_wp2_with fail;go_roundw
    case rel=>exact ⟨k+1,by omega,by go_num,hB8,by rw [HN2.out];exact R8⟩
    case measure=>simp [intOf];omega
   ·have HH:=Hd hh;clear hh;have HN2:Hid (Gx f Er (k+1)=(Gx f Er k).set ix (cv+1)):=by rw [Hid,HN1.out,HH.out];rfl
    have s0:=S4.cell 0;have s1:=S4.cell 1;have s2:=S4.cell 2;simp at s0 s1 s2;have HR8:=Hd R8;clear R8 HN1;go_wp2_with (go_at_call 80;refine (HI1.out _ hB8).mono ?_;rintro e w9 ⟨rfl,hb9⟩;have R9:=HR8.out.keep hb9;have t1:=R9.fz ix;have t2:=R9.lt;have hrl:w9.cell? ⟨g,ix,none⟩=some (.int .i64 cv):=(by have h1:=R9.cell ix;have h2:=HRR.out.cell ix;rw [h1,<- h2];exact HCV.out);have hixI:(ix:Int)<M:=(by omega);have HR9:=Hd R9;clear R9)
    have hB9:=hB8.trans (hb9.mono hB8.size);have HB10:=Hd (hB9.setCell (p:=⟨g,ix,none⟩) hwg (.int .i64 (cv+1)));have P9:=HR9.out.put ix (.int .i64 (cv+1));rw [intRow_set] at P9;have HP9:=Hd P9;clear P9 t1 t2 hrl s0 s1 s2;go_roundw
    case rel=>exact ⟨k+1,by omega,by go_num,HB10.out,by rw [HN2.out];exact HP9.out⟩
    case measure=>simp [intOf];omega
  ·obtain rfl:k=N:=by omega
   go_wp2_with fail;go_ret;exact ⟨g,rfl,R,hB⟩
end
section
attribute [local go_sem ↓] Ei Eh
theorem state_parts {f:Flr} (hok:f.Ok) {i:Nat} (hi:i<f.R*f.S*f.S):Eu f (Cv f.R f.S i) (Eo f.S i) (Cq f.R f.S i)<f.R*f.S/\Er f (Cv f.R f.S i) (Eo f.S i) (Cq f.R f.S i)<f.R*f.S:=by
 obtain ⟨e1,e2,e3,_⟩:=state_lt hok hi;exact ⟨cell_lt e1 e2,cell_lt e1 (runS_lt (by have:=hok.s0;omega))⟩
def CountsP (f:Flr) (ixF:Flr->Nat->Nat->Nat->Nat) (w:World) (e:Ending) (w':World):Prop :=
 Below w.heap.size w w'/\∃ g,e=.returned (.tuple #[.slice (some ⟨g,0,none⟩) (f.R*f.S) (f.R*f.S),.int .i64 0])/\Bk w' g 3 (Ac (Gx f ixF (f.R*f.S*f.S))).toArray
theorem Counts_any (f:Flr) (z:Hc) (w:World) (hp:PrAt w f z) (hpre:f.Pre) (hd:drvOk f=true) :
  Calls Tryz.prog 39 #[f.pr z] w (CountsP f Eu w):=by
 have HO:=Hd (fun (X:World) (h:Below w.heap.size w X)=>open_any f z X (hp.below h) hpre)
 have hok:=hpre.ok hd;have HC:=Hd (fun (b q:Nat) (X:World) (hf:Hu X b f z) (hq:Bk X q 173 #[.pointer (some ⟨b,0,none⟩)])=>bedCounts_any b q f z X hf hok hq (fun i hi=>(state_parts hok hi).1))
 have HD:=Hd hd;clear hok;unfold Flr.pr at *;obtain ⟨W,hW⟩:∃ W,w.alloc (.cells #[.int .i64 f.eye,.int .i64 f.R,.int .i64 f.S,.slice z.A1 f.bed.length z.c1,.int .i64 f.eye,.int .i64 f.R,.int .i64 f.S,.slice z.A2 f.run.length z.c2,.slice z.A3 f.drive.length z.c3] 27)=W:=⟨_,rfl⟩;have hbW:Below w.heap.size w W:=by rw [<- hW];exact Ba
 have X:=(show Bk W w.heap.size 27 #[.int .i64 f.eye,.int .i64 f.R,.int .i64 f.S,.slice z.A1 f.bed.length z.c1,.int .i64 f.eye,.int .i64 f.R,.int .i64 f.S,.slice z.A2 f.run.length z.c2,.slice z.A3 f.drive.length z.c3] by rw [<- hW];exact Aa rfl)
 have x0:=X.cell 0;have x1:=X.cell 1;have x2:=X.cell 2;have x3:=X.cell 3;have x4:=X.cell 4;have x5:=X.cell 5;have x6:=X.cell 6;have x7:=X.cell 7;have x8:=X.cell 8;simp at x0 x1 x2 x3 x4 x5 x6 x7 x8;have HW:=Hd hW;clear hW hp hpre X hd;go_enter Tryz.func39,Tryz.ntmps39;go_upto_region 1 with fail
 rw [HW.out];clear HW;go_wp2_with fail;refine (HO.out W hbW).mono ?_;clear x0 x1 x2 x3 x4 x5 x6 x7 x8 HO;rintro e w2 ⟨hb2,h⟩;have hB:=hbW.trans (hb2.mono hbW.size);rcases h with ⟨_,b,_,rfl,hfl⟩ | ⟨hd,rfl⟩
 ·have Q:Bk (w2.alloc (.cells #[.pointer (some ⟨b,0,none⟩)] 173)) w2.heap.size 173 #[.pointer (some ⟨b,0,none⟩)]:=Aa rfl;have hb3:Below w2.heap.size w2 (w2.alloc (.cells #[.pointer (some ⟨b,0,none⟩)] 173)):=Ba;have HC2:=Hd (HC.out b w2.heap.size _ (hfl.below hb3) Q);have hB3:=hB.trans (hb3.mono hB.size);clear hb2 hb3 hfl Q HC HD hbW hB;go_wp2_with fail;refine (HC2.out).mono ?_;clear HC2;rintro e w4 ⟨g,rfl,hg,hb4⟩;have hB4:=hB3.trans (hb4.mono hB3.size);have HG:=Hd hg;clear hg hb4 hB3;generalize hM:f.R * f.S=M at *;have HM:=Hd hM;clear hM;go_wp2_with fail;go_ret2;exact ⟨hB4,g,by rw [HM.out];rfl,by rw [HM.out];exact HG.out⟩
 ·rw [HD.out] at hd;cases hd
theorem RunnerCounts_any (f:Flr) (z:Hc) (w:World) (hp:PrAt w f z) (hpre:f.Pre) (hd:drvOk f=true) :
  Calls Tryz.prog 38 #[f.pr z] w (CountsP f Er w):=by
 have HO:=Hd (fun (X:World) (h:Below w.heap.size w X)=>open_any f z X (hp.below h) hpre)
 have hok:=hpre.ok hd;have HC:=Hd (fun (b q:Nat) (X:World) (hf:Hu X b f z) (hq:Bk X q 173 #[.pointer (some ⟨b,0,none⟩)])=>runCounts_any b q f z X hf hok hq (fun i hi=>(state_parts hok hi).2))
 have HD:=Hd hd;clear hok;unfold Flr.pr at *;obtain ⟨W,hW⟩:∃ W,w.alloc (.cells #[.int .i64 f.eye,.int .i64 f.R,.int .i64 f.S,.slice z.A1 f.bed.length z.c1,.int .i64 f.eye,.int .i64 f.R,.int .i64 f.S,.slice z.A2 f.run.length z.c2,.slice z.A3 f.drive.length z.c3] 27)=W:=⟨_,rfl⟩;have hbW:Below w.heap.size w W:=by rw [<- hW];exact Ba
 have X:=(show Bk W w.heap.size 27 #[.int .i64 f.eye,.int .i64 f.R,.int .i64 f.S,.slice z.A1 f.bed.length z.c1,.int .i64 f.eye,.int .i64 f.R,.int .i64 f.S,.slice z.A2 f.run.length z.c2,.slice z.A3 f.drive.length z.c3] by rw [<- hW];exact Aa rfl)
 have x0:=X.cell 0;have x1:=X.cell 1;have x2:=X.cell 2;have x3:=X.cell 3;have x4:=X.cell 4;have x5:=X.cell 5;have x6:=X.cell 6;have x7:=X.cell 7;have x8:=X.cell 8;simp at x0 x1 x2 x3 x4 x5 x6 x7 x8;have HW:=Hd hW;clear hW hp hpre X hd;go_enter Tryz.func38,Tryz.ntmps38;go_upto_region 1 with fail
 rw [HW.out];clear HW;go_wp2_with fail;refine (HO.out W hbW).mono ?_;clear x0 x1 x2 x3 x4 x5 x6 x7 x8 HO;rintro e w2 ⟨hb2,h⟩;have hB:=hbW.trans (hb2.mono hbW.size);rcases h with ⟨_,b,_,rfl,hfl⟩ | ⟨hd,rfl⟩
 ·have Q:Bk (w2.alloc (.cells #[.pointer (some ⟨b,0,none⟩)] 173)) w2.heap.size 173 #[.pointer (some ⟨b,0,none⟩)]:=Aa rfl;have hb3:Below w2.heap.size w2 (w2.alloc (.cells #[.pointer (some ⟨b,0,none⟩)] 173)):=Ba;have HC2:=Hd (HC.out b w2.heap.size _ (hfl.below hb3) Q);have hB3:=hB.trans (hb3.mono hB.size);clear hb2 hb3 hfl Q HC HD hbW hB;go_wp2_with fail;refine (HC2.out).mono ?_;clear HC2;rintro e w4 ⟨g,rfl,hg,hb4⟩;have hB4:=hB3.trans (hb4.mono hB3.size);have HG:=Hd hg;clear hg hb4 hB3;generalize hM:f.R * f.S=M at *;have HM:=Hd hM;clear hM;go_wp2_with fail;go_ret2;exact ⟨hB4,g,by rw [HM.out];rfl,by rw [HM.out];exact HG.out⟩
 ·rw [HD.out] at hd;cases hd
end
end Go.Proofs.YteihcodicfoiaaaGreat
