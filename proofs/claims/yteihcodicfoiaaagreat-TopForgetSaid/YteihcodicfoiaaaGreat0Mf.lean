/-
  What is proved: contracts and plain facts that TopForget stands on (Al, Mix, Kit, Mix2, Mix3, Post, RowKit, MapW, Flr, Hist1).
-/
import Derived.Below
import Derived.Lib.Hide
import Derived.Deep.Quiet
import Derived.StillTail
import Derived.Tactics2
import Derived.Test.YteihcodicfoiaaaGreatRows
import Derived.WalkKit
import Derived.BigQuiet
import Derived.Deep.QuietTactic
import Derived.WalkLawsBesides
import Derived.WalkSpells
import Derived.Outline
import Derived.Handy
import Derived.ProofKit
import Derived.Carry
import Derived.Lib.SmallJoins
import Derived.Maps.RangeRun
import Derived.BigRegion
import Derived.Deep.DeepCutAuto
namespace Go.Proofs.YteihcodicfoiaaaGreat
set_option maxRecDepth 100000
set_option maxHeartbeats 4000000
open Go Go.RowKit
section
abbrev z68 : Array Value := #[.int .i64 0, .int .i64 0, .int .i64 0, .int .i64 0, .int .i64 0, .int .i64 0, .int .i64 0, .int .i64 0, .int .i64 0, .int .i64 0, .int .i64 0, .int .i64 0, .int .i64 0, .int .i64 0, .int .i64 0, .slice none 0 0, .int .i64 0, .int .i64 0, .int .i64 0]
abbrev z70 : Array Value := #[.int .i64 0, .int .i64 0, .int .i64 0, .int .i64 0, .int .i64 0, .int .i64 0, .int .i64 0, .int .i64 0, .int .i64 0, .int .i64 0, .int .i64 0, .int .i64 0, .int .i64 0, .int .i64 0, .int .i64 0, .int .i64 0, .int .i64 0, .slice none 0 0, .int .i64 0, .int .i64 0, .int .i64 0]
theorem Hd {p : Prop} (h : p) : Hid p := Lib.hid h
theorem Ai {p q : Prop} (h : p) (k : q) : p ∧ q := ⟨h, k⟩
abbrev Bw (w X : World) : Prop := Below w.heap.size w X
theorem Ba {w : World} {o : Obj} : Below w.heap.size w (w.alloc o) := (Below.refl _ _).alloc (Nat.le_refl w.heap.size) _
theorem Le {n : Nat} : n ≤ n := Nat.le_refl n
end
section
section
variable {P:Program} {ops:Array Oper} {md:Region.Mode} {C:World->Prop}
def treeB (md:Region.Mode) (ops:Array Oper) (n:Nat):Bool :=
 (List.range ops.size).all fun t=>decide (t<=n) || (List.range t).any fun s=>decide (n<=s) && Region.waitsFor md ops t s
theorem tail_waits' {n:Nat} {listed:Array Bool} (hs:Region.sinkB md ops n=true) (hc:treeB md ops n=true) (hn:n<ops.size) (inv:HeadInv md ops n listed) :
  ∀ (d i:Nat),n - i=d->i<n->listed.getD i true=false->∀ t,n<=t->t ∉ Region.ready md ops listed:=by
 intro d
 induction d using Nat.strongRecOn with
 | _ d ih =>
  intro i hd hi hun t ht hr;obtain ⟨_,ot,hot,hall⟩:=mem_ready.1 hr;have htlt:t<ops.size:=(Array.getElem?_eq_some_iff.1 hot).1
  by_cases htn:t=n
  ·subst htn;have h1:=List.all_eq_true.1 hs i (List.mem_range.2 hi);obtain ⟨j,hj,hj2⟩:=List.any_eq_true.1 h1;simp only [Bool.and_eq_true,decide_eq_true_eq] at hj2;obtain ⟨oj,hoj,e,he,hb,hon⟩:=Region.waitsFor_spec hj2.2;have hjle:j<=t:=by have:=List.mem_range.1 hj;omega
   by_cases hjt:j=t
   ·subst hjt;have:oj=ot:=Option.some.inj (hoj.symm.trans hot);subst this;have h2:=hall e he hb;rw [hon,getD_both hun] at h2;cases h2
   ·cases hl:listed.getD j false with
    | true =>
     have h2:=inv.closed j oj hoj hl e he hb;rw [hon,getD_both hun] at h2;cases h2
    | false =>
     have hjs:j<listed.size:=by rw [inv.size];omega
     exact ih (t - j) (by omega) j rfl (by omega) (getD_in hjs hl) t Le hr
  ·have h1:=List.all_eq_true.1 hc t (List.mem_range.2 htlt);simp only [Bool.or_eq_true,decide_eq_true_eq] at h1;rcases h1 with h1 | h1
   ·omega
   ·obtain ⟨s,hs1,hs2⟩:=List.any_eq_true.1 h1;simp only [Bool.and_eq_true,decide_eq_true_eq] at hs2;have hslt:=List.mem_range.1 hs1;obtain ⟨o',ho',e,he,hb,hon⟩:=Region.waitsFor_spec hs2.2;have:o'=ot:=Option.some.inj (ho'.symm.trans hot);subst this;have h2:=hall e he hb;rw [hon,getD_both (inv.tail s hs2.1 (by omega))] at h2
    cases h2
def wpAnyM (P:Program) (md:Region.Mode) (ops:Array Oper) (C:World->Prop) (n:Nat) (L:Array Bool->Act->Prop):Nat->Array Bool->Act->Prop
 | 0,listed,a=>L listed a
 | f+1,listed,a =>
  Region.ready md ops listed≠[]/\∀ i∈Region.ready md ops listed,i<n/\qOp P ops C i (wpAnyM P md ops C n L f (listed.setIfInBounds i true)) a
theorem wpAny_of_headM {n g:Nat} {L:Array Bool->Act->Prop} {Q':Exit->Act->World->Prop} (hL:∀ listed a,L listed a->∀ w,C w->wpAny P md ops Q' g listed a w) :
  ∀ (f:Nat) (listed:Array Bool) (a:Act) (w:World),C w->wpAnyM P md ops C n L f listed a->wpAny P md ops Q' (f+g) listed a w
 | 0,listed,a,w,hC,h=>by rw [Nat.zero_add];exact hL _ _ h w hC
 | f+1,listed,a,w,hC,h=>by
  rw [show f+1+g=(f+g)+1 by omega]
  exact ⟨fun h0=>absurd h0 h.1,fun i hi=>wpOp_of_qOp hC (fun a' w' hC' h'=>wpAny_of_headM hL f _ a' w' hC' h') (h.2 i hi).2⟩
theorem wpAnyM_first {n i:Nat} {oi:Oper} {v:Value} {L:Array Bool->Act->Prop} (hi:ops[i]?=some oi) (hsel:∀ (j:Nat) (o:Oper) cs b,ops[j]?=some o->o.op≠.select cs b)
  (hs:Region.sinkB md ops n=true) (hc:treeB md ops n=true) (hn:n<ops.size) (hin:i<n)
  (hdone:∀ listed a,L listed a->∀ j∈Region.ready md ops listed,n<=j) :
  ∀ (f:Nat) (listed:Array Bool) (a:Act),HeadInv md ops n listed ->
   (∀ j oj,ops[j]?=some oj->j≠i->listed.getD j true=false->(∀ e∈oj.after,Region.binds md e=true->e.on≠i)->oi.apart ops oj=true)->
   i∈Region.ready md ops listed->YieldsIn P ops C oi v a ->
   wpAnyM P md ops C n L f (listed.setIfInBounds i true) (a.put oi.dst v)->wpAnyM P md ops C n L (f+1) listed a:=by
 intro f
 induction f with
 | zero =>
  intro listed a inv _ hr hy H;have hun:=(mem_ready.1 hr).1;refine ⟨fun h=>(by rw [h] at hr;cases hr),fun j hj=>?_⟩
  have hjn:j<n:=by
   rcases Nat.lt_or_ge j n with h | h
   ·exact h
   ·exact absurd hj (tail_waits' hs hc hn inv _ i rfl hin hun j h)
  refine ⟨hjn,?_⟩
  by_cases hji:j=i
  ·subst hji;exact hy.qOp hi H
  ·have:=hdone _ _ H j (ready_mono hj hji);omega
 | succ f ih =>
  intro listed a inv hfree hr hy H;have hun:=(mem_ready.1 hr).1;refine ⟨fun h=>(by rw [h] at hr;cases hr),fun j hj=>?_⟩
  have hjn:j<n:=by
   rcases Nat.lt_or_ge j n with h | h
   ·exact h
   ·exact absurd hj (tail_waits' hs hc hn inv _ i rfl hin hun j h)
  refine ⟨hjn,?_⟩
  by_cases hji:j=i
  ·subst hji;exact hy.qOp hi H
  ·have h1:=(H.2 j (ready_mono hj hji)).2;obtain ⟨hjun,oj,hoj,hall⟩:=mem_ready.1 hj;have hnot:∀ e∈oj.after,Region.binds md e=true->e.on≠i:=fun e he hb heq=>by
    have h1:=hall e he hb;rw [heq,getD_both hun] at h1;cases h1
   have h2:=qOp_put hoj (hfree j oj hoj hji hjun hnot) (fun cs b=>hsel i oi cs b hi) (fun cs b=>hsel j oj cs b hoj) hy h1
   have hfree':∀ k ok,ops[k]?=some ok->k≠i->(listed.setIfInBounds j true).getD k true=false ->
     (∀ e∈ok.after,Region.binds md e=true->e.on≠i)->oi.apart ops ok=true:=fun k ok hk hki hun hno=>by
    refine hfree k ok hk hki ?_ hno
    by_cases hjk:j=k
    ·subst hjk;exact hjun
    ·rw [getD_set_ne true hjk] at hun;exact hun
   refine qOp_mono (fun a' h3=>ih (listed.setIfInBounds j true) a' (inv.set hj hjn) hfree' (ready_mono hr (Ne.symm hji)) h3.1 ?_) h2
   rw [Array.setIfInBounds_comm _ _ hji];exact h3.2
def Fm (o:Oper):Bool:=match o.op with | .move _ | .assign _ | .extract _ _=>true | _=>false
theorem run_extract_any (t:Value) (ix:Nat):(∃ v,∀ w,(Instr.extract t ix).run P w=.ok v w)\/(∃ s,∀ w,(Instr.extract t ix).run P w=.halt (.stuck s) w):=by
 unfold Instr.extract
 split
 ·split
  ·exact .inl ⟨_,fun w=>rfl⟩
  ·exact .inr ⟨_,fun w=>rfl⟩
 ·exact .inr ⟨_,fun w=>rfl⟩
theorem runT_extract (w:World) (tv:Value) (ix:Nat):(((do let r <- Instr.extract tv ix;pure (Next.value r)):Sem Next).runT P w #[]).2=#[]:=by
 unfold Instr.extract
 split
 ·split<;>rfl
 ·rfl
theorem plain_yields {o:Oper} {a:Act} {w:World} {K:Act->World->Prop} {Q:Exit->Act->World->Prop} (hp:Fm o=true) (h:o.wp P a w K Q\/(o.asks P a w/\LetsOut Q)) :
  ∃ v,(∀ w,(execOp a.eval o).run P w=.ok (.value v) w)/\K (a.put o.dst v) w:=by
 have key:(∃ v,∀ w,(execOp a.eval o).run P w=.ok (.value v) w)\/(∃ s,∀ w,(execOp a.eval o).run P w=.halt (.stuck s) w):=by
  unfold Fm at hp
  split at hp
  ·rename_i x hx;exact .inl ⟨_,fun w=>by unfold execOp;rw [hx];rfl⟩
  ·rename_i x hx;exact .inl ⟨_,fun w=>by unfold execOp;rw [hx];rfl⟩
  ·rename_i t ix hx;rcases run_extract_any (P:=P) (a.eval t) ix with ⟨v,hv⟩ | ⟨s,hs⟩
   ·exact .inl ⟨v,fun w=>by unfold execOp;rw [hx];simp [hv]⟩
   ·exact .inr ⟨s,fun w=>by unfold execOp;rw [hx];simp [hs]⟩
  ·cases hp
 have hask:¬ o.asks P a w:=by
  rintro ⟨h1,_⟩
  revert h1
  unfold Fm at hp
  split at hp
  ·rename_i x hx;unfold execOp;rw [hx];intro h1;cases h1;rename_i h1;cases h1
  ·rename_i x hx;unfold execOp;rw [hx];intro h1;cases h1;rename_i h1;cases h1
  ·rename_i t ix hx;have e:((execOp a.eval o).runT P w #[]).2=#[]:=by
    have e1:execOp a.eval o=(do let r <- Instr.extract (a.eval t) ix;pure (Next.value r)):=by unfold execOp;rw [hx]
    rw [e1];exact runT_extract w _ _
   rw [e];simp
  ·cases hp
 rcases h with h | h
 ·rcases key with ⟨v,hv⟩ | ⟨s,hs⟩
  ·refine ⟨v,hv,?_⟩;unfold Oper.wp at h;rw [hv] at h;exact h
  ·unfold Oper.wp at h;rw [hs] at h;exact h.elim
 ·exact absurd h.1 hask
def seqM (md:Region.Mode) (ops:Array Oper):Nat->Nat->Array Bool->Bool
 | 0,_,listed=>(Region.ready md ops listed).isEmpty
 | g+1,k,listed =>
  (decide (Region.ready md ops listed=[k]) || (((ops[k]?).map Fm).getD false && (Region.ready md ops listed).contains k && Region.free md ops listed k)) && seqM md ops g (k+1) (listed.setIfInBounds k true)
theorem Hl {Q:Exit->Act->World->Prop} (hsel:Region.noSelect ops=true) (hQ:∀ c a (d:Option Tmp) (v:Value) w,Q (.panic c) (a.put d v) w->Q (.panic c) a w) :
  ∀ (l:List Oper) (k:Nat) (listed:Array Bool) (a:Act) (w:World),(∀ j,l[j]?=ops[k+j]?)->
  seqM md ops l.length k listed=true->wpList P ops Q l a w->wpAny P md ops Q l.length listed a w
 | [],_,_,_,_,_,hB,h=>⟨by simpa [seqM] using hB,h⟩
 | o :: l,k,listed,a,w,hl,hB,h=>by
  have h0:ops[k]?=some o:=by simpa using (hl 0).symm
  have hl':∀ j,l[j]?=ops[k+1+j]?:=fun j=>by have:=hl (j+1);simpa [Nat.add_assoc,Nat.add_comm 1 j] using this
  simp only [List.length_cons,seqM,Bool.and_eq_true,Bool.or_eq_true,decide_eq_true_eq] at hB;obtain ⟨hB1 | ⟨⟨hp,hr⟩,hf⟩,hB2⟩:=hB
  ·refine ⟨fun h1=>(by rw [hB1] at h1;cases h1),fun i hi=>?_⟩
   rw [hB1] at hi;have hik:i=k:=by simpa using hi
   subst hik;have hw:wpOp P ops Q i (wpList P ops Q l) a w:=by unfold wpOp;simp only [h0];exact h
   exact wpOp_mono (fun a' w' h'=>Hl hsel hQ l (i+1) _ a' w' hl' hB2 h') hw
  ·have hp':Fm o=true:=by simpa [h0] using hp
   unfold wpList at h
   by_cases hw:Region.wanted o (yielded ops a.tmps)=true
   ·rw [if_pos hw] at h;obtain ⟨v,hv,hK⟩:=plain_yields hp' h;exact wpAny_take h0 hsel hf hr (fun c a w=>hQ c a o.dst v w) (.inl ⟨hw,hv⟩) (Hl hsel hQ l (k+1) _ _ w hl' hB2 hK)
   ·rw [if_neg hw] at h;exact wpAny_take h0 hsel hf hr (fun c a w=>hQ c a o.dst undef w) (.inr ⟨by simpa using hw,rfl⟩) (Hl hsel hQ l (k+1) _ _ w hl' hB2 h)
def headM (md:Region.Mode) (ops:Array Oper) (g:Nat):Nat->Nat->Array Bool->Bool
 | 0,k,listed=>seqM md ops g k listed
 | f+1,k,listed=>(Region.ready md ops listed).contains k && Region.free md ops listed k && headM md ops g f (k+1) (listed.setIfInBounds k true)
def mixB (md:Region.Mode) (ops:Array Oper) (n:Nat):Bool :=
 Region.noSelect ops && decide (n<ops.size) && Region.sinkB md ops n && treeB md ops n && headM md ops (ops.size - n) n 0 (Array.replicate ops.size false)
theorem wpAnyM_lex {n g:Nat} {Lq:Act->Prop} (hsel:Region.noSelect ops=true) (hs:Region.sinkB md ops n=true) (hc:treeB md ops n=true) (hn:n<ops.size) :
  ∀ (l:List Oper) (k:Nat) (listed:Array Bool) (a:Act),(∀ j,j<l.length->l[j]?=ops[k+j]?)->k+l.length=n->HeadInv md ops n listed->(∀ j,j<k->listed.getD j true=true)->
  headM md ops g l.length k listed=true->wpQuiet P ops C Lq l a ->
  wpAnyM P md ops C n (fun listed' a'=>(∀ j,j<n->listed'.getD j true=true)/\seqM md ops g n listed'=true/\Lq a') l.length listed a
 | [],k,listed,a,_,hk,_,hlk,hB,h=>by
  have:k=n:=by simpa using hk
  subst this;exact ⟨hlk,by simpa [headM] using hB,h⟩
 | o :: l,k,listed,a,hl,hk,inv,hlk,hB,h=>by
  have h0:ops[k]?=some o:=by simpa using (hl 0 (by simp)).symm
  simp only [List.length_cons,headM,Bool.and_eq_true] at hB;obtain ⟨⟨hr,hf⟩,hB'⟩:=hB;have hkn:k<n:=by simp only [List.length_cons] at hk;omega
  have hr':k∈Region.ready md ops listed:=by simpa using hr
  have hst:qOp P ops C k (wpQuiet P ops C Lq l) a:=by unfold qOp;simp only [h0];exact h
  obtain ⟨v,hy,hK⟩:=yieldsIn_of_qOp h0 hst;have hlk':∀ j,j<k+1->(listed.setIfInBounds k true).getD j true=true:=fun j hj=>by
   by_cases hjk:k=j
   ·subst hjk;rcases Nat.lt_or_ge k listed.size with h1 | h1
    ·simp [h1]
    ·simp
   ·rw [getD_set_ne true hjk];exact hlk j (by omega)
  refine wpAnyM_first h0 (Region.noSelect_spec hsel) hs hc hn hkn (fun listed' a' hL j hj=>?_) l.length listed a inv (Region.free_spec h0 hf) hr' hy
   (wpAnyM_lex hsel hs hc hn l (k+1) _ _ (fun j hj=>by have:=hl (j+1) (by simp;omega);simpa [Nat.add_assoc,Nat.add_comm 1 j] using this) (by simp only [List.length_cons] at hk;omega) (inv.set hr' hkn) hlk' hB' hK)
  have h1:=(mem_ready.1 hj).1;rcases Nat.lt_or_ge j n with h2 | h2
  ·rw [hL.1 j h2] at h1;cases h1
  ·exact h2
theorem wp_region_mix {id:Nat} {Q:Exit->Act->World->Prop} {a:Act} {w:World} {l:List Oper} (n:Nat) (hm:P.follows .mixedOrders=true) (hB:mixB .any l.toArray n=true)
  (hQ:∀ c a (d:Option Tmp) (v:Value) w,Q (.panic c) (a.put d v) w->Q (.panic c) a w) (hC:C { w with drawn:=w.drawn+1 })
  (h:wpQuiet P l.toArray C (fun a'=>∀ w',C w'->wpList P l.toArray Q (l.drop n) a' w') (l.take n) a):(Code.region id l.toArray true).wp P Q a w:=by
 simp only [mixB,Bool.and_eq_true,decide_eq_true_eq] at hB;obtain ⟨⟨⟨⟨hsel,hn⟩,hs⟩,hc⟩,hlex⟩:=hB;have hn':n<l.length:=by simpa using hn
 have htl:(l.take n).length=n:=by simp;omega
 have hdl:(l.drop n).length=l.toArray.size - n:=by simp
 have inv0:HeadInv .any l.toArray n (Array.replicate l.toArray.size false) :=
  ⟨by simp,fun j oj _ hl=>(by rw [getD_replicate_false] at hl;cases hl),fun t _ ht=>getD_in (by simpa using ht) (getD_replicate_false _ _)⟩
 have H:=wpAnyM_lex (md:=.any) (g:=l.toArray.size - n) hsel hs hc hn (l.take n) 0 _ a (fun j hj=>by
  have hj':j<n:=by rw [htl] at hj;exact hj
  simp [hj']) (by simpa using htl) inv0 (fun j hj=>absurd hj (by omega)) (by rw [htl];exact hlex) h
 refine wp_region_any hm ?_;have:=wpAny_of_headM (Q':=Q) (g:=l.toArray.size - n) (fun listed a' hL w' hw'=>by
  have:=Hl (md:=.any) hsel hQ (l.drop n) n listed a' w' (fun j=>by simp [List.getElem?_drop]) (by rw [hdl];exact hL.2.1) (hL.2.2 w' hw')
  rwa [hdl] at this) _ _ _ _ hC H
 rw [htl,show n+(l.toArray.size - n)=l.toArray.size by omega] at this
 exact this
def Ext (w:World):Type:={ x:World // Below w.heap.size w x }
instance extInhabited (w:World):Nonempty (Ext w):=⟨⟨w,Below.refl _ _⟩⟩
def Ext.w {w:World} (x:Ext w):World:=x.1
theorem Ext.bel {w:World} (x:Ext w):Below w.heap.size w x.w:=x.2
theorem Ext.here (w:World):∃ x:Ext w,{ w with drawn:=w.drawn+1 } = x.w:=⟨⟨{ w with drawn:=w.drawn+1 },⟨rfl,rfl,rfl,Nat.le_refl _,fun _ _=>rfl⟩⟩,rfl⟩
theorem Cj {f:FuncId} {args:Array Value} {w:World} {x:Ext w} {v:Value} (h:Calls P f args x.w fun e w'=>e=.returned v/\Below x.w.heap.size x.w w') :
  Calls P f args x.w fun e w''=>e=.returned v/\∃ y:Ext w,w''=y.w :=
 h.mono fun _ _ ⟨he,hb⟩=>⟨he,⟨_,x.bel.trans (hb.mono x.bel.size)⟩,rfl⟩
theorem ext_same {f:FuncId} {args:Array Value} {w:World} {x:Ext w} {v:Value} (h:Calls P f args x.w fun e w'=>e=.returned v/\x.w=w') :
  Calls P f args x.w fun e w''=>e=.returned v/\∃ y:Ext w,w''=y.w :=
 h.mono fun _ _ ⟨he,hb⟩=>⟨he,x,hb.symm⟩
theorem Bg {id:Nat} {Q:Exit->Act->World->Prop} {a:Act} {w:World} {l:List Oper} (hm:P.follows .mixedOrders=true) (hB:Region.lexB .any l.toArray=true)
  (h:wpQuiet P l.toArray (fun w'=>∃ x:Ext w,w'=x.w) (fun a'=>∀ w',(∃ x:Ext w,w'=x.w)->Q .normal a' w') l a):(Code.region id l.toArray true).wp P Q a w :=
 wp_region_quiet (C:=fun w'=>∃ x:Ext w,w'=x.w) hm hB (Ext.here w) (by simpa using h)
theorem By {id:Nat} {Q:Exit->Act->World->Prop} {a:Act} {w:World} {l:List Oper} (n:Nat) (hm:P.follows .mixedOrders=true) (hB:mixB .any l.toArray n=true)
  (hQ:∀ c a (d:Option Tmp) (v:Value) w,Q (.panic c) (a.put d v) w->Q (.panic c) a w)
  (h:wpQuiet P l.toArray (fun w'=>∃ x:Ext w,w'=x.w) (fun a'=>∀ w',(∃ x:Ext w,w'=x.w)->wpList P l.toArray Q (l.drop n) a' w') (l.take n) a):(Code.region id l.toArray true).wp P Q a w :=
 wp_region_mix n hm hB hQ (Ext.here w) h
end
end
section
theorem Af {a b:Bool} (h:a=b):Ending.returned (.bool a)=.returned (.bool b):=by rw [h]
theorem Cb {k:IntKind} {a b:Int} (h:a=b):Ending.returned (.int k a)=.returned (.int k b):=by rw [h]
def inB (n lo hi:Int):Bool:=decide (lo<=n/\n<=hi)
theorem bcell {W w1:World} (hb:Below W.heap.size W w1):(∀ b o,b<W.heap.size->w1.cell? ⟨b,o,none⟩=W.cell? ⟨b,o,none⟩)/\(∀ b o,b<W.heap.size->w1.frozen? ⟨b,o,none⟩=W.frozen? ⟨b,o,none⟩) :=
 ⟨fun b o h=>hb.cell (p:=⟨b,o,none⟩) h,fun b o h=>hb.frozen (p:=⟨b,o,none⟩) h⟩
def Ad (w:World) (A:Option Addr) (xs:List Value):Prop :=
 0<xs.length->∃ b off,A=some ⟨b,off,none⟩/\b<w.heap.size/\∀ j u,xs[j]?=some u->w.cell? ⟨b,off+j,none⟩=some u
theorem Ad.keep {w w':World} {A:Option Addr} {xs:List Value} (h:Ad w A xs) (hz:w.heap.size<=w'.heap.size) (hk:∀ b o,b<w.heap.size->w'.cell? ⟨b,o,none⟩=w.cell? ⟨b,o,none⟩):Ad w' A xs:=fun hn=>by
 obtain ⟨b,off,e,hb,hc⟩:=h hn;exact ⟨b,off,e,by omega,fun j u hu=>(hk _ _ hb).trans (hc j u hu)⟩
theorem Ad.below {w w':World} {A:Option Addr} {xs:List Value} (h:Ad w A xs) (hb:Below w.heap.size w w'):Ad w' A xs :=
 h.keep hb.size (bcell hb).1
theorem Ad.alloc {w:World} {A:Option Addr} {xs:List Value} (h:Ad w A xs) (o:Obj):Ad (w.alloc o) A xs :=
 h.keep (by simp) fun b o' hb=>World.cell?_alloc_lt w o _ hb
theorem Cw {α:Type} (f:α->List Value) (k:Nat) (hf:∀ x,(f x).length=k) (_hk:0<k) (L:List α) (i j:Nat) (hi:i<L.length) (hj:j<k):(L.flatMap f)[i*k+j]?=(f L[i])[j]?:=by
 induction L generalizing i with
 | nil=>simp at hi
 | cons a L ih =>
  cases i with
  | zero=>simp [List.getElem?_append,hf,hj]
  | succ i =>
   have h1:(i+1)*k+j=k+(i*k+j):=by rw [Nat.add_mul];omega
   simp only [List.flatMap_cons,List.getElem?_append,hf];rw [if_neg (by omega),h1,Nat.add_sub_cancel_left]
   exact ih i (by simpa using hi)
theorem Ci {α:Type} (f:α->List Value) (k:Nat) (hf:∀ x,(f x).length=k) (L:List α):(L.flatMap f).length=L.length*k:=by
 induction L with
 | nil=>simp
 | cons a L ih=>simp [hf,ih,Nat.add_mul];omega
def Bk (w:World) (g:Nat) (t:TypeId) (cs:Array Value):Prop:=w.heap[g]?=some (.cells cs t (0,0))
section
variable {w w':World} {g:Nat} {t:TypeId} {cs:Array Value}
theorem Bk.lt (h:Bk w g t cs):g<w.heap.size:=(Array.getElem?_eq_some_iff.1 h).1
theorem Bk.cell (h:Bk w g t cs) (i:Nat):w.cell? ⟨g,i,none⟩=cs[i]?:=cell_of_row w g i cs t (0,0) h
theorem Bk.fz (h:Bk w g t cs) (i:Nat):w.frozen? ⟨g,i,none⟩=false:=by
 have h':w.heap[g]?=some (.cells cs t (0,0)):=h;simp [World.frozen?,h']
theorem Bk.new (w:World) (t:TypeId) (cs:Array Value):Bk (w.alloc (.cells cs t)) w.heap.size t cs:=heap_alloc_new w _
theorem Bk.alloc (h:Bk w g t cs) (o:Obj):Bk (w.alloc o) g t cs:=(Below.heap_alloc w o g h.lt).trans h
theorem Bk.drewN (h:Bk w g t cs) (n:Nat):Bk (w.drewN n) g t cs:=h
theorem Bk.drew (h:Bk w g t cs):Bk w.drew g t cs:=h
theorem Bk.far (h:Bk w g t cs) {p:Addr} (hp:g≠p.block) (u:Value):Bk (w.setCell p u) g t cs:=(Below.heap_setCell w p u g hp).trans h
theorem Bk.put (h:Bk w g t cs) (i:Nat) (u:Value):Bk (w.setCell ⟨g,i,none⟩ u) g t (cs.setIfInBounds i u):=by
 have h':w.heap[g]?=some (.cells cs t (0,0)):=h
 show (w.setCell ⟨g,i,none⟩ u).heap[g]?=_
 simp [World.setCell,Array.getElem?_modify,h']
theorem Bk.below {B:Nat} (h:Bk w g t cs) (hb:Below B w w') (hg:g<B):Bk w' g t cs:=(hb.block g hg).trans h
theorem Bk.ne {g':Nat} {t':TypeId} {cs':Array Value} (h:Bk w g t cs) (h':Bk w g' t' cs') (hne:t≠t'):g≠g':=by
 rintro rfl;have h1:w.heap[g]?=some (.cells cs t (0,0)):=h;have h2:w.heap[g]?=some (.cells cs' t' (0,0)):=h';rw [h1] at h2;injection h2 with h2
 injection h2 with _ h2
 exact hne h2
end
theorem As {B:Nat} {a w:World} (h:Below B a w) (n:Nat):Below B a (w.drewN n):=⟨h.os,h.tape,h.output,h.size,h.block⟩
theorem own_some {w:World} {base:Nat} {e:TypeId} {size:Nat} {v:Value} {n:Nat} {xs:List Value} (h:w.ownsRow base e size v n xs) (hn:0<n) :
  ∃ (g cap:Nat) (cur:Array Value),v=.slice (some ⟨g,0,none⟩) n cap/\base<=g/\Bk w g e cur/\n<=cap/\cur.size=cap*size/\∀ (j:Nat) (u:Value),xs[j]?=some u->cur[j]?=some u:=by
 rcases h.2 with ⟨_,h0⟩ | ⟨g,cap,cur,hv,hb,hg,hnc,_,hs,ht⟩
 ·omega
 ·refine ⟨g,cap,cur,hv,hb,hg,hnc,hs,fun j u hu=>?_⟩
  rw [<- ht,List.getElem?_take] at hu
  split at hu
  ·simpa using hu
  ·cases hu
def Fo (xs:List Value):Prop:=∀ u∈xs,u.oneCell'=true
theorem De (b off j:Nat):(⟨b,off,none⟩:Addr).add j=⟨b,off+j,none⟩:=by
 unfold Addr.add
 split
 ·rename_i h;subst h;rfl
 ·rfl
def RowB (w:World) (b off:Nat) (xs:List Value):Prop:=b<w.heap.size/\∀ (j:Nat) (u:Value),xs[j]?=some u->w.cell? ⟨b,off+j,none⟩=some u
theorem RowB.keep {w w':World} {b off:Nat} {xs:List Value} (h:RowB w b off xs) (hb:Below w.heap.size w w'):RowB w' b off xs :=
 ⟨Nat.lt_of_lt_of_le h.1 hb.size,fun j u hu=>((bcell hb).1 _ _ h.1).trans (h.2 j u hu)⟩
theorem RowB.alloc {w:World} {b off:Nat} {xs:List Value} (h:RowB w b off xs) (o:Obj):RowB (w.alloc o) b off xs:=h.keep ((Below.refl _ _).alloc Le o)
theorem Ad.some_ {w:World} {A:Option Addr} {xs:List Value} (h:Ad w A xs) (h0:0<xs.length):∃ b off,A=some ⟨b,off,none⟩/\RowB w b off xs:=by
 obtain ⟨b,off,e,hb,hc⟩:=h h0;exact ⟨b,off,e,hb,hc⟩
theorem RowB.add {w:World} {b off:Nat} {xs:List Value} (h:RowB w b off xs):∀ (j:Nat) (u:Value),xs[j]?=some u->w.cell? ((⟨b,off,none⟩:Addr).add j)=some u :=
 fun j u hu=>by rw [De];exact h.2 j u hu
theorem Aa {w:World} {n:Nat} {t:TypeId} {cs:Array Value} (h:w.heap.size=n):Bk (w.alloc (.cells cs t)) n t cs:=by subst h;exact Bk.new w t cs
theorem Ag {W w1:World} {b o:Nat} {v:Value} (hb:Below W.heap.size W w1) (h:W.cell? ⟨b,o,none⟩=some v):w1.cell? ⟨b,o,none⟩=some v :=
 (hb.cell (p:=⟨b,o,none⟩) (World.block_lt_of_cell? W _ h)).trans h
theorem two_at (w:World) (u v:Value) (t:TypeId) (n:Nat) (h:w.heap.size=n):∀ (j:Nat) (x:Value),[u,v][j]?=some x->(w.alloc (.cells #[u,v] t)).cell? ((⟨n,0,none⟩:Addr).add j)=some x:=by
 subst h;intro j x hx;rw [De]
 match j with
 | 0=>simp at hx;subst hx;simp
 | 1=>simp at hx;subst hx;simp
 | j+2=>simp at hx
theorem own_row {w:World} {base:Nat} {e:TypeId} {size:Nat} {v:Value} {n:Nat} {xs:List Value} (h:w.ownsRow base e size v n xs) (hn:0<n) :
  ∃ g cap,v=.slice (some ⟨g,0,none⟩) n cap/\base<=g/\RowB w g 0 xs:=by
 obtain ⟨g,cap,cur,hv,hb,hg,_,_,hx⟩:=own_some h hn;exact ⟨g,cap,hv,hb,hg.lt,fun j u hu=>by rw [Nat.zero_add,hg.cell];exact hx j u hu⟩
theorem Ad.drew_ {w:World} {A:Option Addr} {xs:List Value} (h:Ad w A xs):Ad w.drew A xs:=h
theorem own_rowB {w:World} {base:Nat} {e:TypeId} {size n cap g:Nat} {xs:List Value} (h:w.ownsRow base e size (.slice (some ⟨g,0,none⟩) n cap) n xs):RowB w g 0 xs:=by
 rcases h.2 with ⟨hv,_⟩ | ⟨g',cap',cur,hv,hb,hg,hnc,_,hs,ht⟩
 ·cases hv
 ·injection hv with hv
  injection hv with hv
  injection hv with hv
  subst hv;have hk:Bk w g e cur:=hg;refine ⟨hk.lt,fun j u hu=>?_⟩
  rw [Nat.zero_add,hk.cell];rw [<- ht,List.getElem?_take] at hu
  split at hu
  ·simpa using hu
  ·cases hu
theorem Bk.grown {w w':World} {g:Nat} {t:TypeId} {cs:Array Value} {row:Option Nat} (h:Bk w g t cs) (hb:w.grownBy w' row) (hg:some g≠row):Bk w' g t cs:=(hb.block g h.lt hg).trans h
theorem own_ne {w:World} {base:Nat} {e:TypeId} {size:Nat} {v:Value} {n:Nat} {xs:List Value} (h:w.ownsRow base e size v n xs) {b:Nat} (hb:b<base):some b≠v.ownBlock:=by
 intro e;have:=(h.lt b e.symm).1;omega
theorem Ca {w w1:World} {base:Nat} {e:TypeId} {size:Nat} {v:Value} {n:Nat} {xs:List Value} (h:w.ownsRow base e size v n xs) (hb:Below w.heap.size w w1):w1.ownsRow base e size v n xs:=by
 refine ⟨h.1,?_⟩;rcases h.2 with h2 | ⟨g,cap,cur,hv,hg,hh,r⟩
 ·exact .inl h2
 ·exact .inr ⟨g,cap,cur,hv,hg,(hb.block g (Array.getElem?_eq_some_iff.1 hh).1).trans hh,r⟩
def Ac (xs:List Int):List Value:=xs.map (.int .i64 ·)
theorem intCells_len (xs:List Int):(Ac xs).length=xs.length:=by simp [Ac]
theorem Ad.int {w:World} {A:Option Addr} {xs:List Int} (h:Ad w A (Ac xs)) (h0:0<xs.length) :
  ∃ b off,A=some ⟨b,off,none⟩/\b<w.heap.size/\∀ k (hk:k<xs.length),w.cell? ⟨b,off+k,none⟩=some (.int .i64 xs[k]):=by
 obtain ⟨b,off,e,hb,hc⟩:=h (by rw [intCells_len];exact h0)
 exact ⟨b,off,e,hb,fun k hk=>hc k _ (by simp [Ac,hk])⟩
theorem intCells_one (l:List Int):∀ u∈Ac l,u.oneCell'=true:=by
 intro u hu;obtain ⟨x,_,rfl⟩:=List.mem_map.1 hu;rfl
theorem Au {w:World} {base:Nat} {e:TypeId} {size:Nat} {v:Value} {n:Nat} {xs:List Value} (h:w.ownsRow base e size v n xs) :
  ∃ A c,v=.slice A n c/\n<=c/\Ad w A xs/\∀ g,v.ownBlock=some g->base<=g/\g<w.heap.size:=by
 have hl:=h.lt;have hlen:=h.1;rcases h.2 with ⟨rfl,rfl⟩ | ⟨g,cap,cur,rfl,hb,hg,hnc,_,hs,ht⟩
 ·refine ⟨none,0,rfl,Nat.le_refl _,fun h0=>?_,hl⟩
  simp at hlen;simp [hlen] at h0
 ·refine ⟨some ⟨g,0,none⟩,cap,rfl,hnc,fun _=>⟨g,0,rfl,(Array.getElem?_eq_some_iff.1 hg).1,fun j u hu=>?_⟩,hl⟩
  rw [Nat.zero_add,cell_of_row w g j cur e (0,0) hg];rw [<- ht,List.getElem?_take] at hu
  split at hu
  ·simpa using hu
  ·cases hu
theorem World.grownBy_refl (w:World) (row:Option Nat):w.grownBy w row:=⟨rfl,rfl,rfl,Nat.le_refl _,fun _ _ _=>rfl⟩
theorem three_at (w:World) (u v x:Value) (t:TypeId) (n:Nat) (h:w.heap.size=n):∀ (j:Nat) (y:Value),[u,v,x][j]?=some y->(w.alloc (.cells #[u,v,x] t)).cell? ((⟨n,0,none⟩:Addr).add j)=some y:=by
 subst h;intro j y hy;rw [De]
 match j with
 | 0=>simp at hy;subst hy;simp
 | 1=>simp at hy;subst hy;simp
 | 2=>simp at hy;subst hy;simp
 | j+3=>simp at hy
theorem own_far {w:World} {base:Nat} {e:TypeId} {size:Nat} {v:Value} {n:Nat} {xs:List Value} (h:w.ownsRow base e size v n xs) {a:Addr} (ha:v.ownBlock≠some a.block) (u:Value):(w.setCell a u).ownsRow base e size v n xs :=
 h.kept (row:=some a.block) ⟨rfl,rfl,rfl,by simp,fun k _ hk=>heap_setCell_other w a k u (fun e=>hk (by rw [e]))⟩ (.inr ha)
theorem own_cap {w:World} {base g cap:Nat} {e:TypeId} {size n:Nat} {xs:List Value} (h:w.ownsRow base e size (.slice (some ⟨g,0,none⟩) n cap) n xs):n<=cap/\cap<=maxLen/\base<=g:=by
 rcases h.2 with ⟨h',_⟩ | ⟨g',cap',cur,h',hb,hg,hnc,hcm,_⟩
 ·simp at h'
 ·simp only [Value.slice.injEq,Option.some.injEq,Addr.mk.injEq,and_true,true_and] at h';obtain ⟨rfl,rfl⟩:=h';exact ⟨hnc,hcm,hb⟩
def Dp (l:List Bool):List Value:=l.map (.bool ·)
theorem boolCells_set (l:List Bool) (i:Nat) (x:Bool):(Dp l).set i (.bool x)=Dp (l.set i x):=by simp [Dp,List.map_set]
theorem Bk.keep {w w':World} {g:Nat} {t:TypeId} {cs:Array Value} (h:Bk w g t cs) (hb:Below w.heap.size w w'):Bk w' g t cs:=h.below hb h.lt
theorem Ei (ats:Array TypeId) (ty:TypeId) (k:IntKind) (x y:Int):Builtin.max_ ats ty #[.int k x,.int k y]=pure (.int k (max x y)):=by
 have h:(if y > x then y else x)=max x y:=by split<;>omega
 simp [Builtin.max_,Builtin.max2,h]
theorem Eh (ats:Array TypeId) (ty:TypeId) (k:IntKind) (x y:Int):Builtin.min_ ats ty #[.int k x,.int k y]=pure (.int k (min x y)):=by
 have h:(if y<x then y else x)=min x y:=by split<;>omega
 simp [Builtin.min_,Builtin.min2,h]
end
section
section
variable {P:Program} {ops:Array Oper} {md:Region.Mode} {C:World->Prop}
def sinkS (md:Region.Mode) (ops:Array Oper) (s n:Nat):Bool :=
 (List.range n).all fun i=>decide (i<s) || (List.range (n+1)).any fun j=>decide (i<j) && Region.waitsFor md ops j i
theorem tail_waits2 {s n:Nat} {listed:Array Bool} (hs:sinkS md ops s n=true) (hc:treeB md ops n=true) (hn:n<ops.size) (inv:HeadInv md ops n listed) (hS:∀ j,j<s->listed.getD j true=true) :
  ∀ (d i:Nat),n - i=d->i<n->listed.getD i true=false->∀ t,n<=t->t ∉ Region.ready md ops listed:=by
 intro d
 induction d using Nat.strongRecOn with
 | _ d ih =>
  intro i hd hi hun t ht hr;obtain ⟨_,ot,hot,hall⟩:=mem_ready.1 hr;have htlt:t<ops.size:=(Array.getElem?_eq_some_iff.1 hot).1
  by_cases htn:t=n
  ·subst htn;have h1:=List.all_eq_true.1 hs i (List.mem_range.2 hi);simp only [Bool.or_eq_true,decide_eq_true_eq] at h1;rcases h1 with h1 | h1
   ·rw [hS i h1] at hun;cases hun
   obtain ⟨j,hj,hj2⟩:=List.any_eq_true.1 h1;simp only [Bool.and_eq_true,decide_eq_true_eq] at hj2;obtain ⟨oj,hoj,e,he,hb,hon⟩:=Region.waitsFor_spec hj2.2;have hjle:j<=t:=by have:=List.mem_range.1 hj;omega
   by_cases hjt:j=t
   ·subst hjt;have:oj=ot:=Option.some.inj (hoj.symm.trans hot);subst this;have h2:=hall e he hb;rw [hon,getD_both hun] at h2;cases h2
   ·cases hl:listed.getD j false with
    | true =>
     have h2:=inv.closed j oj hoj hl e he hb;rw [hon,getD_both hun] at h2;cases h2
    | false =>
     have hjs:j<listed.size:=by rw [inv.size];omega
     exact ih (t - j) (by omega) j rfl (by omega) (getD_in hjs hl) t Le hr
  ·have h1:=List.all_eq_true.1 hc t (List.mem_range.2 htlt);simp only [Bool.or_eq_true,decide_eq_true_eq] at h1;rcases h1 with h1 | h1
   ·omega
   ·obtain ⟨s,hs1,hs2⟩:=List.any_eq_true.1 h1;simp only [Bool.and_eq_true,decide_eq_true_eq] at hs2;have hslt:=List.mem_range.1 hs1;obtain ⟨o',ho',e,he,hb,hon⟩:=Region.waitsFor_spec hs2.2;have:o'=ot:=Option.some.inj (ho'.symm.trans hot);subst this;have h2:=hall e he hb;rw [hon,getD_both (inv.tail s hs2.1 (by omega))] at h2
    cases h2
theorem listed_set {s j:Nat} {listed:Array Bool} (hS:∀ k,k<s->listed.getD k true=true):∀ k,k<s->(listed.setIfInBounds j true).getD k true=true:=fun k hk=>by
 by_cases hjk:j=k
 ·subst hjk;rcases Nat.lt_or_ge j listed.size with h1 | h1
  ·simp [h1]
  ·simp
 ·rw [getD_set_ne true hjk];exact hS k hk
theorem wpAnyM_first2 {s n i:Nat} {oi:Oper} {v:Value} {L:Array Bool->Act->Prop} (hi:ops[i]?=some oi) (hsel:∀ (j:Nat) (o:Oper) cs b,ops[j]?=some o->o.op≠.select cs b)
  (hs:sinkS md ops s n=true) (hc:treeB md ops n=true) (hn:n<ops.size) (hin:i<n)
  (hdone:∀ listed a,L listed a->∀ j∈Region.ready md ops listed,n<=j) :
  ∀ (f:Nat) (listed:Array Bool) (a:Act),HeadInv md ops n listed->(∀ k,k<s->listed.getD k true=true)->
   (∀ j oj,ops[j]?=some oj->j≠i->listed.getD j true=false->(∀ e∈oj.after,Region.binds md e=true->e.on≠i)->oi.apart ops oj=true)->
   i∈Region.ready md ops listed->YieldsIn P ops C oi v a ->
   wpAnyM P md ops C n L f (listed.setIfInBounds i true) (a.put oi.dst v)->wpAnyM P md ops C n L (f+1) listed a:=by
 intro f
 induction f with
 | zero =>
  intro listed a inv hS _ hr hy H;have hun:=(mem_ready.1 hr).1;refine ⟨fun h=>(by rw [h] at hr;cases hr),fun j hj=>?_⟩
  have hjn:j<n:=by
   rcases Nat.lt_or_ge j n with h | h
   ·exact h
   ·exact absurd hj (tail_waits2 hs hc hn inv hS _ i rfl hin hun j h)
  refine ⟨hjn,?_⟩
  by_cases hji:j=i
  ·subst hji;exact hy.qOp hi H
  ·have:=hdone _ _ H j (ready_mono hj hji);omega
 | succ f ih =>
  intro listed a inv hS hfree hr hy H;have hun:=(mem_ready.1 hr).1;refine ⟨fun h=>(by rw [h] at hr;cases hr),fun j hj=>?_⟩
  have hjn:j<n:=by
   rcases Nat.lt_or_ge j n with h | h
   ·exact h
   ·exact absurd hj (tail_waits2 hs hc hn inv hS _ i rfl hin hun j h)
  refine ⟨hjn,?_⟩
  by_cases hji:j=i
  ·subst hji;exact hy.qOp hi H
  ·have h1:=(H.2 j (ready_mono hj hji)).2;obtain ⟨hjun,oj,hoj,hall⟩:=mem_ready.1 hj;have hnot:∀ e∈oj.after,Region.binds md e=true->e.on≠i:=fun e he hb heq=>by
    have h1:=hall e he hb;rw [heq,getD_both hun] at h1;cases h1
   have h2:=qOp_put hoj (hfree j oj hoj hji hjun hnot) (fun cs b=>hsel i oi cs b hi) (fun cs b=>hsel j oj cs b hoj) hy h1
   have hfree':∀ k ok,ops[k]?=some ok->k≠i->(listed.setIfInBounds j true).getD k true=false ->
     (∀ e∈ok.after,Region.binds md e=true->e.on≠i)->oi.apart ops ok=true:=fun k ok hk hki hun hno=>by
    refine hfree k ok hk hki ?_ hno
    by_cases hjk:j=k
    ·subst hjk;exact hjun
    ·rw [getD_set_ne true hjk] at hun;exact hun
   refine qOp_mono (fun a' h3=>ih (listed.setIfInBounds j true) a' (inv.set hj hjn) (listed_set hS) hfree' (ready_mono hr (Ne.symm hji)) h3.1 ?_) h2
   rw [Array.setIfInBounds_comm _ _ hji];exact h3.2
theorem wpAnyM_lex2 {s n g:Nat} {Lq:Act->Prop} (hsel:Region.noSelect ops=true) (hs:sinkS md ops s n=true) (hc:treeB md ops n=true) (hn:n<ops.size) :
  ∀ (l:List Oper) (k:Nat) (listed:Array Bool) (a:Act),(∀ j,j<l.length->l[j]?=ops[k+j]?)->k+l.length=n->s<=k->HeadInv md ops n listed->(∀ j,j<k->listed.getD j true=true)->
  headM md ops g l.length k listed=true->wpQuiet P ops C Lq l a ->
  wpAnyM P md ops C n (fun listed' a'=>(∀ j,j<n->listed'.getD j true=true)/\seqM md ops g n listed'=true/\Lq a') l.length listed a
 | [],k,listed,a,_,hk,_,_,hlk,hB,h=>by
  have:k=n:=by simpa using hk
  subst this;exact ⟨hlk,by simpa [headM] using hB,h⟩
 | o :: l,k,listed,a,hl,hk,hsk,inv,hlk,hB,h=>by
  have h0:ops[k]?=some o:=by simpa using (hl 0 (by simp)).symm
  simp only [List.length_cons,headM,Bool.and_eq_true] at hB;obtain ⟨⟨hr,hf⟩,hB'⟩:=hB;have hkn:k<n:=by simp only [List.length_cons] at hk;omega
  have hr':k∈Region.ready md ops listed:=by simpa using hr
  have hst:qOp P ops C k (wpQuiet P ops C Lq l) a:=by unfold qOp;simp only [h0];exact h
  obtain ⟨v,hy,hK⟩:=yieldsIn_of_qOp h0 hst;have hlk':∀ j,j<k+1->(listed.setIfInBounds k true).getD j true=true:=fun j hj=>by
   by_cases hjk:k=j
   ·subst hjk;rcases Nat.lt_or_ge k listed.size with h1 | h1
    ·simp [h1]
    ·simp
   ·rw [getD_set_ne true hjk];exact hlk j (by omega)
  refine wpAnyM_first2 h0 (Region.noSelect_spec hsel) hs hc hn hkn (fun listed' a' hL j hj=>?_) l.length listed a inv (fun j hj=>hlk j (by omega)) (Region.free_spec h0 hf) hr' hy
   (wpAnyM_lex2 hsel hs hc hn l (k+1) _ _ (fun j hj=>by have:=hl (j+1) (by simp;omega);simpa [Nat.add_assoc,Nat.add_comm 1 j] using this) (by simp only [List.length_cons] at hk;omega) (by omega) (inv.set hr' hkn) hlk' hB' hK)
  have h1:=(mem_ready.1 hj).1;rcases Nat.lt_or_ge j n with h2 | h2
  ·rw [hL.1 j h2] at h1;cases h1
  ·exact h2
theorem plain_quiet {o:Oper} {a:Act} {w:World} {K:Act->Prop} (hp:Fm o=true) (hC:C w) (h:o.quiet P a C K) :
  ∃ v,(∀ w,(execOp a.eval o).run P w=.ok (.value v) w)/\K (a.put o.dst v):=by
 obtain ⟨v,hv,hK⟩:=h;have h1:=hv w hC;unfold Oper.quietAt at h1;unfold Fm at hp
 split at hp
 ·rename_i x hx;have e:∀ w,(execOp a.eval o).run P w=.ok (.value (a.eval x)) w:=fun w=>by unfold execOp;rw [hx];rfl
  rw [e] at h1;obtain ⟨_,rfl⟩:=h1;exact ⟨_,e,hK⟩
 ·rename_i x hx;have e:∀ w,(execOp a.eval o).run P w=.ok (.value (a.eval x)) w:=fun w=>by unfold execOp;rw [hx];rfl
  rw [e] at h1;obtain ⟨_,rfl⟩:=h1;exact ⟨_,e,hK⟩
 ·rename_i t ix hx;rcases run_extract_any (P:=P) (a.eval t) ix with ⟨u,hu⟩ | ⟨s,hs⟩
  ·have e:∀ w,(execOp a.eval o).run P w=.ok (.value u) w:=fun w=>by unfold execOp;rw [hx];simp [hu]
   rw [e] at h1;obtain ⟨_,rfl⟩:=h1;exact ⟨_,e,hK⟩
  ·have e:∀ w,(execOp a.eval o).run P w=.halt (.stuck s) w:=fun w=>by unfold execOp;rw [hx];simp [hs]
   rw [e] at h1;exact h1.elim
 ·cases hp
def preM (md:Region.Mode) (ops:Array Oper) (g m:Nat):Nat->Nat->Array Bool->Bool
 | 0,k,listed=>headM md ops g m k listed
 | f+1,k,listed=>((ops[k]?).map Fm).getD false && (Region.ready md ops listed).contains k && Region.free md ops listed k && preM md ops g m f (k+1) (listed.setIfInBounds k true)
theorem wpAny_pre {s n:Nat} {Q:Exit->Act->World->Prop} (lt:List Oper) (hsel:Region.noSelect ops=true) (hs:sinkS md ops s n=true) (hc:treeB md ops n=true) (hn:n<ops.size)
  (hlt:∀ j,lt[j]?=ops[n+j]?) (hQ:∀ c a (d:Option Tmp) (v:Value) w,Q (.panic c) (a.put d v) w->Q (.panic c) a w) :
  ∀ (l1 l2:List Oper) (k:Nat) (listed:Array Bool) (a:Act) (w:World),(∀ j,j<(l1 ++ l2).length->(l1 ++ l2)[j]?=ops[k+j]?)->k+(l1 ++ l2).length=n->k+l1.length=s->HeadInv md ops n listed ->
  (∀ j,j<k->listed.getD j true=true)->preM md ops lt.length l2.length l1.length k listed=true->C w ->
  wpQuiet P ops C (fun a'=>∀ w',C w'->wpList P ops Q lt a' w') (l1 ++ l2) a->wpAny P md ops Q ((l1 ++ l2).length+lt.length) listed a w
 | [],l2,k,listed,a,w,hl,hk,hks,inv,hlk,hB,hC,h=>by
  simp only [List.nil_append] at *;have hks':k=s:=by simpa using hks
  have H:=wpAnyM_lex2 (md:=md) (g:=lt.length) hsel hs hc hn l2 k listed a hl hk (by omega) inv hlk (by simpa [preM] using hB) h
  exact wpAny_of_headM (Q':=Q) (g:=lt.length) (fun listed a' hL w' hw'=>Hl (md:=md) hsel hQ lt n listed a' w' hlt hL.2.1 (hL.2.2 w' hw')) _ _ _ _ hC H
 | o :: l1,l2,k,listed,a,w,hl,hk,hks,inv,hlk,hB,hC,h=>by
  have h0:ops[k]?=some o:=by simpa using (hl 0 (by simp)).symm
  simp only [List.length_cons,preM,Bool.and_eq_true] at hB;obtain ⟨⟨⟨hp,hr⟩,hf⟩,hB'⟩:=hB;have hp':Fm o=true:=by simpa [h0] using hp
  have hkn:k<n:=by simp only [List.cons_append,List.length_cons] at hk;omega
  have hr':k∈Region.ready md ops listed:=by simpa using hr
  have hlk':∀ j,j<k+1->(listed.setIfInBounds k true).getD j true=true:=fun j hj=>by
   by_cases hjk:k=j
   ·subst hjk;rcases Nat.lt_or_ge k listed.size with h1 | h1
    ·simp [h1]
    ·simp
   ·rw [getD_set_ne true hjk];exact hlk j (by omega)
  have hl':∀ j,j<(l1 ++ l2).length->(l1 ++ l2)[j]?=ops[k+1+j]?:=fun j hj=>by
   have:=hl (j+1) (by simpa using hj)
   simpa [Nat.add_assoc,Nat.add_comm 1 j] using this
  have hk':k+1+(l1 ++ l2).length=n:=by simp only [List.cons_append,List.length_cons] at hk;omega
  have hks':k+1+l1.length=s:=by simp only [List.length_cons] at hks;omega
  have step:=fun a' w' (hC':C w') hq=>wpAny_pre lt hsel hs hc hn hlt hQ l1 l2 (k+1) (listed.setIfInBounds k true) a' w' hl' hk' hks' (inv.set hr' hkn) hlk' hB' hC' hq
  rw [List.cons_append,List.length_cons,show (l1 ++ l2).length+1+lt.length=((l1 ++ l2).length+lt.length)+1 by omega]
  rw [List.cons_append] at h;unfold wpQuiet at h
  by_cases hw:Region.wanted o (yielded ops a.tmps)=true
  ·rw [if_pos hw] at h;obtain ⟨v,hv,hK⟩:=plain_quiet hp' hC h;exact wpAny_take h0 hsel hf hr (fun c a w=>hQ c a o.dst v w) (.inl ⟨hw,hv⟩) (step _ _ hC hK)
  ·rw [if_neg hw] at h;exact wpAny_take h0 hsel hf hr (fun c a w=>hQ c a o.dst undef w) (.inr ⟨by simpa using hw,rfl⟩) (step _ _ hC h)
def premixB (md:Region.Mode) (ops:Array Oper) (s n:Nat):Bool :=
 Region.noSelect ops && decide (n<ops.size) && decide (s<=n) && sinkS md ops s n && treeB md ops n && preM md ops (ops.size - n) (n - s) s 0 (Array.replicate ops.size false)
theorem wp_region_premix {id:Nat} {Q:Exit->Act->World->Prop} {a:Act} {w:World} {l:List Oper} (s n:Nat) (hm:P.follows .mixedOrders=true) (hB:premixB .any l.toArray s n=true)
  (hQ:∀ c a (d:Option Tmp) (v:Value) w,Q (.panic c) (a.put d v) w->Q (.panic c) a w) (hC:C { w with drawn:=w.drawn+1 })
  (h:wpQuiet P l.toArray C (fun a'=>∀ w',C w'->wpList P l.toArray Q (l.drop n) a' w') (l.take n) a):(Code.region id l.toArray true).wp P Q a w:=by
 simp only [premixB,Bool.and_eq_true,decide_eq_true_eq] at hB;obtain ⟨⟨⟨⟨⟨hsel,hn⟩,hsn⟩,hs⟩,hc⟩,hlex⟩:=hB;have hn':n<l.length:=by simpa using hn
 have e1:l.take n=l.take s ++ (l.take n).drop s:=by
  have:=(List.take_append_drop s (l.take n)).symm
  rwa [List.take_take,Nat.min_eq_left hsn] at this
 have htl:(l.take n).length=n:=by simp;omega
 have hls:(l.take s).length=s:=by simp;omega
 have hl2:((l.take n).drop s).length=n - s:=by simp;omega
 have hdl:(l.drop n).length=l.toArray.size - n:=by simp
 have inv0:HeadInv .any l.toArray n (Array.replicate l.toArray.size false) :=
  ⟨by simp,fun j oj _ hl=>(by rw [getD_replicate_false] at hl;cases hl),fun t _ ht=>getD_in (by simpa using ht) (getD_replicate_false _ _)⟩
 rw [e1] at h;have H:=wpAny_pre (md:=.any) (l.drop n) hsel hs hc hn (fun j=>by simp [List.getElem?_drop]) hQ (l.take s) ((l.take n).drop s) 0 _ a { w with drawn:=w.drawn+1 } (fun j hj=>by
  rw [<- e1] at hj ⊢;rw [htl] at hj;simp [hj]) (by rw [<- e1,htl];omega) (by rw [hls];omega) inv0 (fun j hj=>absurd hj (by omega)) (by rw [hdl,hl2,hls];exact hlex) hC h
 refine wp_region_any hm ?_
 rwa [<- e1,htl,hdl,show n+(l.toArray.size - n)=l.toArray.size by omega] at H
theorem wp_region_extpre {id:Nat} {Q:Exit->Act->World->Prop} {a:Act} {w:World} {l:List Oper} (s n:Nat) (hm:P.follows .mixedOrders=true) (hB:premixB .any l.toArray s n=true)
  (hQ:∀ c a (d:Option Tmp) (v:Value) w,Q (.panic c) (a.put d v) w->Q (.panic c) a w)
  (h:wpQuiet P l.toArray (fun w'=>∃ x:Ext w,w'=x.w) (fun a'=>∀ w',(∃ x:Ext w,w'=x.w)->wpList P l.toArray Q (l.drop n) a' w') (l.take n) a):(Code.region id l.toArray true).wp P Q a w :=
 wp_region_premix s n hm hB hQ (Ext.here w) h
end
end
section
section
variable {P:Program} {ops:Array Oper} {md:Region.Mode} {C:World->Prop}
theorem set_done {k:Nat} {listed:Array Bool} (h:∀ j,j<k->listed.getD j true=true):∀ j,j<k+1->(listed.setIfInBounds k true).getD j true=true:=fun j hj=>by
 by_cases hjk:k=j
 ·subst hjk;rcases Nat.lt_or_ge k listed.size with h1 | h1
  ·simp [h1]
  ·simp
 ·rw [getD_set_ne true hjk];exact h j (by omega)
end
end
section
open Go.ChangeShapes Go.WideShapes Go.ChangeAt Go.RowKit Go.Joins
section
variable {H:Type} {enc:TypeId×Value->H} {P:Program}
theorem trodAll_keep (hl:laidOutB P=true) {W W':World} (hb:Below W.heap.size W W') {sp:Nat->Bool} :
  ∀ (ts:List TypeId) (vs:List Value) (ds:List (DataW H)) (ps:List MemPlace),(∀ t∈ts,P.readableRec t=true/\t<P.types.size)->(∀ x∈ps,x.block<W.heap.size)->(∀ x∈ps,sp x.block=true)->
   DataW.TrodAll enc P W 0 (fun _=>true) true ts vs ds ps->DataW.TrodAll enc P W' 0 sp true ts vs ds ps
 | [],vs,ds,ps,_,_,_,h=>by
  obtain ⟨rfl,rfl,rfl⟩:=trodAll_nil h;exact rfl
 | t :: ts,vs,ds,ps,ht,hlt,hsp,h=>by
  obtain ⟨v,vs',d,ds',p,q,rfl,rfl,rfl,h1,h2⟩:=trodAll_cons h;refine trodAll_cons_mk (WideElems.Trod_stays hl (ht t (by simp)).1 (ht t (by simp)).2 h1 (fun x hx=>hb.same (hlt x (by simp [hx]))) (fun x hx=>hsp x (by simp [hx]))) ?_
  exact trodAll_keep hl hb ts vs' ds' q (fun t' h'=>ht t' (by simp [h'])) (fun x hx=>hlt x (by simp [hx])) (fun x hx=>hsp x (by simp [hx])) h2
theorem law_post {f:Func} {s:ChangeSpec} {fresh handsOn again:Bool} {W W':World} {args:Array Value} {ds gs:List (DataW H)} {before:List MemPlace} (hl:laidOutB P=true)
  (hts:∀ t∈f.params.toList,P.readableRec t=true/\t<P.types.size) (hr:f.resultTypes=#[4]) (h4:P.underlying 4=some .bool) (hv:s.vars=[])
  (hf1:(s.fn H (ds ++ gs)).results=[.lit (.bool true)]) (hf2:(s.fn H (ds ++ gs)).args=ds) (hf3:(s.fn H (ds ++ gs)).vars=[])
  (hW:DataW.Whole enc P f.params.toList s.vars false W args.toList ds gs before) (hb:Below W.heap.size W W') :
  s.post enc P f false fresh handsOn again W args (.bool true) W':=by
 have hlt:∀ p∈before,p.block<W.heap.size:=fun p hp=>hW.lt p hp
 have hold:∀ p∈before,(fun b=>decide (b<W.heap.size)) p.block=true:=fun p hp=>by simpa using hlt p hp
 have hW':=hW;obtain ⟨p,q,hA,hV,rfl,hz,hn⟩:=hW';rw [hv] at hV;obtain ⟨rfl,rfl⟩:=trodVars_none hV;simp only [List.append_nil] at hlt hold hW hf1 hf2 hf3 hz;have hres:∀ (b:Nat) (sp:Nat->Bool) (hd:Bool),DataW.TrodAll enc P W' b sp hd f.resultTypes.toList ((Value.bool true).resultList f.resultTypes.size) (s.fn H (ds ++ [])).results []:=fun b sp hd=>by
  rw [List.append_nil,hf1,hr];exact trodAll_mk1 (shut_bool h4 true)
 have hargs:∀ sp:Nat->Bool,(∀ x∈p,sp x.block=true)->DataW.TrodAll enc P W' 0 sp true f.params.toList args.toList (s.fn H (ds ++ [])).args p:=fun sp hsp=>by
  rw [List.append_nil,hf2];exact trodAll_keep hl hb _ _ _ _ hts hlt hsp hA
 have hvars:∀ sp:Nat->Bool,DataW.TrodVars enc P W' sp s.vars (s.fn H (ds ++ [])).vars []:=fun sp=>by
  rw [List.append_nil,hf3,hv];exact rfl
 refine ⟨ds,[],p,[],p,[],by simpa using hW,hres _ _ _,hargs _ hold,hvars _,World.keptBut_mono (fun x hx=>⟨hx,?_⟩) (hb.frame (· ∈ p)),fun _=>?_⟩
 ·exact .inr (.inl hx)
 ·refine ⟨ok_one hr rfl (okWide_bool_mk h4 true),_,_,([] ++ p) ++ [],⟨[] ++ p,[],trodAll_append (hargs _ (fun _ _=>rfl)) (hres _ _ _),hvars _,rfl,?_,fun h=>by cases h⟩,?_⟩
  ·intro b off hp;have hin:MemPlace.cell b off∈p:=by simpa using hp
   rw [hb.frozen (hlt _ hin)];exact hz b off hin
  ·intro x hx _
   simpa using hx
end
end
section
theorem Tryz.own:ownKnob Tryz.prog.godebug=none:=by kernel_rfl
theorem Tryz.laidOut:laidOutB Tryz.prog=true:=by kernel_rfl
end
section
open Go.ChangeMaps (setBlock)
variable {P:Program}
def Ee (a b:Int):Value:=.agg #[.int .i64 a,.int .i64 b]
structure NameKey (P:Program) (kt:TypeId):Prop where
 und:∃ fs,P.underlying kt=some (.struct fs)
 chk:∀ e a b w,(Instr.checkKey e 10000 kt (Ee a b)).run P w=.ok () w
 eql:∀ a b c d w,(Op.equal kt (Ee a b) (Ee c d)).run P w=.ok (a == c && b == d) w
theorem sameBits_name (a b:Int):Instr.sameBits 10000 (Ee a b) (Ee a b)=true:=by simp [Ee,Instr.sameBits]
end
section
attribute [local go_sem ↓] Ei Eh
structure Mv where
 out:Int
 side:Int
 cut:Bool
def Mv.cells (m:Mv):List Value:=[.int .i64 m.out,.int .i64 m.side,.bool m.cut]
theorem Mv.cells_len (m:Mv):m.cells.length=3:=rfl
def Gz (l:List Mv):List Value:=l.flatMap Mv.cells
structure Flr where
 eye:Int
 R:Nat
 S:Nat
 bed:List Int
 run:List Int
 drive:List (List Mv)
structure Hc where
 A1:Option Addr
 A2:Option Addr
 A3:Option Addr
 c1:Nat
 c2:Nat
 c3:Nat
 dr:List (Option Addr×Nat)
def Flr.head (f:Flr) (z:Hc):List Value :=
 [.int .i64 f.eye,.int .i64 f.R,.int .i64 f.S,.slice z.A1 f.bed.length z.c1,.int .i64 f.eye,.int .i64 f.R,.int .i64 f.S,.slice z.A2 f.run.length z.c2,.slice z.A3 9 z.c3,.int .i64 f.R,.int .i64 f.S]
def drCell (f:Flr) (z:Hc) (i:Nat):Value:=.slice (z.dr.getD i (none,0)).1 (f.drive.getD i []).length (z.dr.getD i (none,0)).2
def Flr.cells (f:Flr) (z:Hc):Array Value:=(f.head z ++ (List.range 9).map (drCell f z)).toArray
structure Flr.Ok (f:Flr):Prop where
 r0:1<=f.R
 r1:f.R<=4
 s0:2<=f.S
 s1:f.S<=8
 bl:f.bed.length=f.R*f.S
 rl:f.run.length=f.R*f.S
 bk:∀ x∈f.bed,0<=x/\x<=2
 rk:∀ x∈f.run,0<=x/\x<=2
 dl:f.drive.length=9
 dk:∀ l∈f.drive,1<=l.length/\l.length<=3/\∀ m∈l,-1<=m.out/\m.out<=1 /\ -1<=m.side/\m.side<=1
structure Hu (w:World) (b:Nat) (f:Flr) (z:Hc):Prop where
 blk:Bk w b 181 (f.cells z)
 bed:Ad w z.A1 (Ac f.bed)
 run:Ad w z.A2 (Ac f.run)
 drv:∀ i,i<9->Ad w (z.dr.getD i (none,0)).1 (Gz (f.drive.getD i []))
theorem Hu.below {w w':World} {b:Nat} {f:Flr} {z:Hc} (h:Hu w b f z) (hb:Below w.heap.size w w'):Hu w' b f z :=
 ⟨h.blk.keep hb,h.bed.below hb,h.run.below hb,fun i hi=>(h.drv i hi).below hb⟩
theorem Hu.cS {w:World} {b:Nat} {f:Flr} {z:Hc} (h:Hu w b f z):w.cell? ⟨b,10,none⟩=some (.int .i64 f.S):=h.blk.cell 10
theorem Hu.cR {w:World} {b:Nat} {f:Flr} {z:Hc} (h:Hu w b f z):w.cell? ⟨b,9,none⟩=some (.int .i64 f.R):=h.blk.cell 9
theorem Hu.cB {w:World} {b:Nat} {f:Flr} {z:Hc} (h:Hu w b f z):w.cell? ⟨b,3,none⟩=some (.slice z.A1 f.bed.length z.c1):=h.blk.cell 3
theorem Hu.cN {w:World} {b:Nat} {f:Flr} {z:Hc} (h:Hu w b f z):w.cell? ⟨b,7,none⟩=some (.slice z.A2 f.run.length z.c2):=h.blk.cell 7
theorem Hu.cD {w:World} {b:Nat} {f:Flr} {z:Hc} (h:Hu w b f z) {i:Nat} (hi:i<9):w.cell? ⟨b,11+i,none⟩=some (.slice (z.dr.getD i (none,0)).1 (f.drive.getD i []).length (z.dr.getD i (none,0)).2):=by
 have h1:=h.blk.cell (11+i);rw [h1];have:i=0\/i=1\/i=2\/i=3\/i=4\/i=5\/i=6\/i=7\/i=8:=by omega
 rcases this with rfl | rfl | rfl | rfl | rfl | rfl | rfl | rfl | rfl<;>rfl
theorem round_val {n:Int} {S:Nat} (hS:0<S):(n.tmod S+S).tmod S=n % S:=by
 have h1:-(S:Int)<n.tmod S:=Int.lt_tmod_of_pos n (by omega)
 rw [Int.tmod_eq_emod_of_nonneg (a:=n.tmod S+S) (by omega),Int.add_emod_right]
 exact Int.emod_eq_emod_iff_emod_sub_eq_zero.2 (by
  have e:=Int.mul_tdiv_add_tmod n S;have e2:n.tmod S - n = -(S*n.tdiv S):=by omega
  rw [e2];exact Int.emod_eq_zero_of_dvd ⟨-(n.tdiv S),by rw [Int.mul_neg]⟩)
theorem round_any (b S:Nat) (n:Int) (w:World) (h0:2<=S) (h1:S<=8) (x0:w.cell? ⟨b,10,none⟩=some (.int .i64 S)) (hn:-1000<=n/\n<=1000) :
  Calls Tryz.prog 81 #[.pointer (some ⟨b,0,none⟩),.int .i64 n] w fun e w'=>e=.returned (.int .i64 (n % S))/\Below w.heap.size w w':=by
 have hv:=round_val (n:=n) (S:=S) (by omega)
 have hS0:S≠0:=by omega
 have hsz:((S:Int) == 0)=false:=by simp;omega
 have hm1:-(S:Int)<n.tmod S:=Int.lt_tmod_of_pos n (by omega)
 have hm2:n.tmod S<S:=Int.tmod_lt_of_pos n (by omega)
 have hw1:=IntWalk.i64_in (n.tmod S) (by omega)
 have hw2:=IntWalk.i64_in (n.tmod S+S) (by omega)
 have hm3:0<=n % S/\n % S<S:=⟨Int.emod_nonneg _ (by omega),Int.emod_lt_of_pos _ (by omega)⟩
 have hw3:=IntWalk.i64_in (n % S) (by omega)
 have HB:=Below.refl w.heap.size w;go_enter Tryz.func81,Tryz.ntmps81;go_upto_region 1 with fail
 go_quiet (fail);go_wp2_with fail;go_ret;exact ⟨rfl,As HB _⟩
theorem Jj {a b m n:Int} (h0:0<=a) (h1:a<=m) (h2:0<=b) (h3:b<=n):0<=a*b/\a*b<=m*n :=
 ⟨Int.mul_nonneg h0 h2,Int.mul_le_mul h1 h3 h2 (by omega)⟩
theorem states_any (b:Nat) (f:Flr) (z:Hc) (w:World) (hf:Hu w b f z) (hok:f.Ok) :
  Calls Tryz.prog 122 #[.pointer (some ⟨b,0,none⟩)] w fun e w'=>e=.returned (.int .i64 ((f.R*f.S*f.S:Nat):Int))/\Below w.heap.size w w':=by
 have x0:=hf.cS;have x1:=hf.cR;obtain ⟨r0,r1,s0,s1,_,_,_,_,_,_⟩:=hok;have HE:Hid (((f.R*f.S*f.S:Nat):Int)=(f.R:Int)*f.S*f.S):=by simp [Hid]
 clear hf;generalize f.R=R at *;generalize f.S=S at *;have hb1:=Jj (a:=R) (b:=S) (m:=4) (n:=8) (by omega) (by omega) (by omega) (by omega)
 have hb2:=Jj (a:=(R:Int)*S) (b:=S) (m:=32) (n:=8) (by omega) (by omega) (by omega) (by omega)
 have hw1:=IntWalk.i64_in ((R:Int)*S) (by omega)
 have hw2:=IntWalk.i64_in ((R:Int)*S*S) (by omega)
 have HB:=Below.refl w.heap.size w;clear hb1 hb2;go_enter Tryz.func122,Tryz.ntmps122;go_upto_region 1 with fail
 go_quiet (fail);go_wp2_with fail;go_ret;exact ⟨by first | (rw [HE.out];done) | (rw [HE.out];rfl),As HB _⟩
def numN (R S ring sec turn:Nat):Nat:=(turn*R+ring)*S+sec
def stV (ring sec turn:Nat):Value:=.agg #[.int .i64 ring,.int .i64 sec,.int .i64 turn]
theorem number_any (b:Nat) (f:Flr) (z:Hc) (ring sec turn:Nat) (w:World) (hf:Hu w b f z) (hok:f.Ok) (h1:ring<f.R) (h2:sec<f.S) (h3:turn<f.S) :
  Calls Tryz.prog 152 #[.pointer (some ⟨b,0,none⟩),stV ring sec turn] w fun e w'=>e=.returned (.int .i64 (numN f.R f.S ring sec turn))/\Below w.heap.size w w':=by
 obtain ⟨r0,r1,s0,s1,_,_,_,_,_,_⟩:=hok;have HE:Hid ((numN f.R f.S ring sec turn:Int)=((turn:Int)*f.R+ring)*f.S+sec):=by simp [Hid,numN]
 obtain ⟨W,hW⟩:∃ W,w.alloc (.cells #[.int .i64 ring,.int .i64 sec,.int .i64 turn] 178)=W:=⟨_,rfl⟩;have hbW:Below w.heap.size w W:=by rw [<- hW];exact Ba
 have Y:Bk W w.heap.size 178 #[.int .i64 ring,.int .i64 sec,.int .i64 turn]:=by rw [<- hW];exact Aa rfl
 have x0:=(hf.below hbW).cS;have x1:=(hf.below hbW).cR;have y0:=Y.cell 0;have y1:=Y.cell 1;have y2:=Y.cell 2;simp at y0 y1 y2;have HW:=Hd hW;clear hf hW Y;generalize f.R=R at *;generalize f.S=S at *;have hb1:=Jj (a:=turn) (b:=R) (m:=8) (n:=4) (by omega) (by omega) (by omega) (by omega)
 have hb2:=Jj (a:=(turn:Int)*R+ring) (b:=S) (m:=36) (n:=8) (by omega) (by omega) (by omega) (by omega)
 have hw1:=IntWalk.i64_in ((turn:Int)*R) (by omega)
 have hw2:=IntWalk.i64_in ((turn:Int)*R+ring) (by omega)
 have hw3:=IntWalk.i64_in (((turn:Int)*R+ring)*S) (by omega)
 have hw4:=IntWalk.i64_in (((turn:Int)*R+ring)*S+sec) (by omega)
 clear hb1 hb2;unfold stV;go_enter Tryz.func152,Tryz.ntmps152;go_upto_region 1 with fail
 rw [HW.out];clear HW;go_quiet (fail);go_wp2_with fail;go_ret;exact ⟨by first | (rw [HE.out];done) | (rw [HE.out];rfl),As hbW _⟩
def Cv (R S i:Nat):Nat:=i / S % R
def Eo (S i:Nat):Nat:=i % S
def Cq (R S i:Nat):Nat:=i / (S*R)
theorem state_any (b:Nat) (f:Flr) (z:Hc) (i:Nat) (w:World) (hf:Hu w b f z) (hok:f.Ok) (hi:i<1000) :
  Calls Tryz.prog 123 #[.pointer (some ⟨b,0,none⟩),.int .i64 i] w fun e w'=>e=.returned (stV (Cv f.R f.S i) (Eo f.S i) (Cq f.R f.S i))/\Below w.heap.size w w':=by
 obtain ⟨r0,r1,s0,s1,_,_,_,_,_,_⟩:=hok;have x0:=hf.cS;have x1:=hf.cR;clear hf;generalize f.R=R at *;generalize f.S=S at *;have HE:Hid (stV (Cv R S i) (Eo S i) (Cq R S i)=.agg #[.int .i64 ((i:Int) / S % R),.int .i64 ((i:Int) % S),.int .i64 ((i:Int) / ((S:Int)*R))]):=by
  simp [Hid,stV,Cv,Eo,Cq]
 have hR0:R≠0:=by omega
 have hS0:S≠0:=by omega
 have hb1:=Jj (a:=S) (b:=R) (m:=8) (n:=4) (by omega) (by omega) (by omega) (by omega)
 have hp1:0<(S:Int)*R:=Int.mul_pos (by omega) (by omega)
 have e1:(i:Int).tdiv S=i / S:=Int.tdiv_eq_ediv_of_nonneg (by omega)
 have e2:(i:Int).tmod S=i % S:=Int.tmod_eq_emod_of_nonneg (by omega)
 have e3:(i:Int).tdiv ((S:Int)*R)=i / ((S:Int)*R):=Int.tdiv_eq_ediv_of_nonneg (by omega)
 have d1:0<=(i:Int) / S:=Int.ediv_nonneg (by omega) (by omega)
 have d2:(i:Int) / S<=i:=Int.ediv_le_self _ (by omega)
 have e4:((i:Int) / S).tmod R=i / S % R:=Int.tmod_eq_emod_of_nonneg d1;have m1:0<=(i:Int) / S % R/\(i:Int) / S % R<R:=⟨Int.emod_nonneg _ (by omega),Int.emod_lt_of_pos _ (by omega)⟩
 have m2:0<=(i:Int) % S/\(i:Int) % S<S:=⟨Int.emod_nonneg _ (by omega),Int.emod_lt_of_pos _ (by omega)⟩
 have d3:0<=(i:Int) / ((S:Int)*R):=Int.ediv_nonneg (by omega) (by omega)
 have d4:(i:Int) / ((S:Int)*R)<=i:=Int.ediv_le_self _ (by omega)
 have hw1:=IntWalk.i64_in ((S:Int)*R) (by omega)
 have hw2:=IntWalk.i64_in ((i:Int) / S) (by omega)
 have hw3:=IntWalk.i64_in ((i:Int) / ((S:Int)*R)) (by omega)
 have hz:((S:Int)*R == 0)=false:=by simp;omega
 have hz1:((S:Int) == 0)=false:=by simp;omega
 have hz2:((R:Int) == 0)=false:=by simp;omega
 have A0:Bk (w.alloc (.cells #[.int .i64 0,.int .i64 0,.int .i64 0] 178)) w.heap.size 178 #[.int .i64 0,.int .i64 0,.int .i64 0]:=Aa rfl;have hbW:Below w.heap.size w (w.alloc (.cells #[.int .i64 0,.int .i64 0,.int .i64 0] 178)):=Ba;replace x0:(w.alloc (.cells #[.int .i64 0,.int .i64 0,.int .i64 0] 178)).cell? ⟨b,10,none⟩=some (.int .i64 S):=Ag hbW x0;replace x1:(w.alloc (.cells #[.int .i64 0,.int .i64 0,.int .i64 0] 178)).cell? ⟨b,9,none⟩=some (.int .i64 R):=Ag hbW x1;go_enter Tryz.func123,Tryz.ntmps123;go_upto_region 1 with fail
 generalize w.alloc (.cells #[.int .i64 0,.int .i64 0,.int .i64 0] 178)=W at *;replace x0:=fun x:Ext W=>Ag x.bel x0
 replace x1:=fun x:Ext W=>Ag x.bel x1
 refine By 29 (by kernel_rfl) (by kernel_rfl) (fun _ _ d _ _ h=>by cases d<;>exact h) ?_
 simp only [List.take_succ_cons,List.take_zero,List.drop_succ_cons,List.drop_zero];repeat (go_big_quiet_step (fail))
 refine wpQuiet_nil ?_;rintro _ ⟨y,rfl⟩;clear x0 x1;have hb2:=y.bel;generalize y.w=w2 at hb2 ⊢;have A2:=A0.keep hb2;have a0:=A2.cell 0;have a1:=A2.cell 1;have a2:=A2.cell 2;have f0:=A2.fz 0;have f1:=A2.fz 1;have f2:=A2.fz 2;have al:=A2.lt;simp at a0 a1 a2;have hB:=hbW.trans (hb2.mono hbW.size);go_wp2_with fail;refine bodyPost_ret (v:=.agg #[.int .i64 ((i:Int) / S % R),.int .i64 ((i:Int) % S),.int .i64 ((i:Int) / ((S:Int)*R))]) (by simp [results,Tryz.results123,go_sem,a0,a1,a2,al]) rfl ?_
 refine ⟨by rw [HE.out],?_⟩
 exact ((hB.setCell (p:=⟨w.heap.size,0,none⟩) Le _).setCell (p:=⟨w.heap.size,1,none⟩) Le _).setCell (p:=⟨w.heap.size,2,none⟩) Le _
end
section
structure Ab where
 house:Int
 num:Int
 clock:Int
 day:Int
 kind:Int
 stone:Int
 heap:Int
 turns:Int
 hlo:Int
 hhi:Int
 dlo:Int
 dhi:Int
 a:Int
 b:Int
 ring:Int
 strokes:List Int
 sA:Option Addr
 sc:Nat
 rh:Int
 rn:Int
 fix:Int
def Ab.arr (n:Ab):Array Value :=
 #[.int .i64 n.house,.int .i64 n.num,.int .i64 n.clock,.int .i64 n.day,.int .i64 n.kind,.int .i64 n.stone,.int .i64 n.heap,.int .i64 n.turns,.int .i64 n.hlo,.int .i64 n.hhi,.int .i64 n.dlo,.int .i64 n.dhi,.int .i64 n.a,.int .i64 n.b,.int .i64 n.ring,
  .slice n.sA n.strokes.length n.sc,.int .i64 n.rh,.int .i64 n.rn,.int .i64 n.fix]
def Ab.At (n:Ab) (w:World):Prop:=Ad w n.sA (Ac n.strokes)
theorem Ab.At.below {n:Ab} {w w':World} (h:n.At w) (hb:Below w.heap.size w w'):n.At w':=Ad.below h hb
theorem Bm (n lo hi:Int) (w:World) :
  Calls Tryz.prog 36 #[.int .i64 n,.int .i64 lo,.int .i64 hi] w fun e w'=>e=.returned (.bool (inB n lo hi))/\w=w':=by
 by_cases h1:n>=lo
 ·by_cases h2:n<=hi
  ·go_enter Tryz.func36,Tryz.ntmps36;go_wp2_with fail;go_ret;exact ⟨Af (by simp [inB];omega),rfl⟩
  ·go_enter Tryz.func36,Tryz.ntmps36;go_wp2_with fail;go_ret;exact ⟨Af (by simp [inB];omega),rfl⟩
 ·go_enter Tryz.func36,Tryz.ntmps36;go_wp2_with fail;go_ret;exact ⟨Af (by simp [inB];omega),rfl⟩
def Cf (l h lo hi:Int):Bool:=decide (lo<=l/\l<=h/\h<=hi)
theorem Jf (l h lo hi:Int) (w:World) :
  Calls Tryz.prog 65 #[.agg #[.int .i64 l,.int .i64 h],.int .i64 lo,.int .i64 hi] w fun e w'=>e=.returned (.bool (Cf l h lo hi))/\Below w.heap.size w w':=by
 obtain ⟨W,hW⟩:∃ W,w.alloc (.cells #[.int .i64 l,.int .i64 h] 29)=W:=⟨_,rfl⟩;have hbW:Below w.heap.size w W:=by rw [<- hW];exact Ba
 have X:=(show Bk W w.heap.size 29 #[.int .i64 l,.int .i64 h] by rw [<- hW];exact Aa rfl)
 have x0:=X.cell 0;have x1:=X.cell 1;simp at x0 x1;have HW:=Hd hW;clear hW X
 by_cases h1:l>=lo
 ·by_cases h2:l<=h
  ·by_cases h3:h<=hi
   all_goals
    go_enter Tryz.func65,Tryz.ntmps65;go_upto_region 1 with fail
    rw [HW.out];clear HW;go_wp2_with fail;go_ret;exact ⟨Af (by simp [Cf];omega),hbW⟩
  ·go_enter Tryz.func65,Tryz.ntmps65;go_upto_region 1 with fail
   rw [HW.out];clear HW;go_wp2_with fail;go_ret;exact ⟨Af (by simp [Cf];omega),hbW⟩
 ·go_enter Tryz.func65,Tryz.ntmps65;go_upto_region 1 with fail
  rw [HW.out];clear HW;go_wp2_with fail;go_ret;exact ⟨Af (by simp [Cf];omega),hbW⟩
theorem done_any (n:Ab) (w:World) :
  Calls Tryz.prog 71 #[.agg n.arr] w fun e w'=>e=.returned (.bool (inB n.kind 1 4))/\Below w.heap.size w w':=by
 obtain ⟨W,hW⟩:∃ W,w.alloc (.cells n.arr 68)=W:=⟨_,rfl⟩;have hbW:Below w.heap.size w W:=by rw [<- hW];exact Ba
 have X:=(show Bk W w.heap.size 68 n.arr by rw [<- hW];exact Aa rfl)
 unfold Ab.arr at *;have x4:=X.cell 4;simp at x4;have HW:=Hd hW;clear hW X;go_enter Tryz.func71,Tryz.ntmps71;go_upto_region 1 with fail
 rw [HW.out];clear HW;go_wp2_with (go_at_call 36;refine (Bm _ _ _ _).mono ?_;rintro e w1 ⟨rfl,rfl⟩);go_ret;exact ⟨rfl,hbW⟩
theorem Gt (h n:Int) (w:World) :
  Calls Tryz.prog 116 #[.agg #[.int .i64 h,.int .i64 n]] w fun e w'=>e=.returned (.bool (inB h 1 8 && inB n 1 400))/\Below w.heap.size w w':=by
 obtain ⟨W,hW⟩:∃ W,w.alloc (.cells #[.int .i64 h,.int .i64 n] 66)=W:=⟨_,rfl⟩;have hbW:Below w.heap.size w W:=by rw [<- hW];exact Ba
 have X:=(show Bk W w.heap.size 66 #[.int .i64 h,.int .i64 n] by rw [<- hW];exact Aa rfl)
 have x0:=X.cell 0;have x1:=X.cell 1;simp at x0 x1;have HW:=Hd hW;clear hW X
 by_cases h1:inB h 1 8=true
 ·go_enter Tryz.func116,Tryz.ntmps116;go_upto_region 1 with fail
  rw [HW.out];clear HW;go_wp2_with (go_at_call 36;refine (Bm _ _ _ _).mono ?_;rintro e w1 ⟨rfl,rfl⟩;try rw [h1])
  go_ret;exact ⟨Af (by simp [h1]),hbW⟩
 ·have h1':inB h 1 8=false:=by simpa using h1
  go_enter Tryz.func116,Tryz.ntmps116;go_upto_region 1 with fail
  rw [HW.out];clear HW;go_wp2_with (go_at_call 36;refine (Bm _ _ _ _).mono ?_;rintro e w1 ⟨rfl,rfl⟩;try rw [h1'])
  go_ret;exact ⟨Af (by simp [h1']),hbW⟩
theorem Dx (n:Ab) (w:World) :
  Calls Tryz.prog 73 #[.agg n.arr] w fun e w'=>e=.returned (.agg #[.int .i64 n.house,.int .i64 n.num])/\Below w.heap.size w w':=by
 obtain ⟨W,hW⟩:∃ W,(w.alloc (.cells n.arr 68)).alloc (.cells #[.int .i64 0,.int .i64 0] 66)=W:=⟨_,rfl⟩;have hbW:Below w.heap.size w W:=by rw [<- hW];exact Ba.alloc (by simp) _
 have X:=(show Bk W w.heap.size 68 n.arr by rw [<- hW];exact (Aa rfl).alloc _)
 have Y:=(show Bk W (w.heap.size+1) 66 #[.int .i64 0,.int .i64 0] by rw [<- hW];exact Aa (by simp))
 unfold Ab.arr at *;have x0:=X.cell 0;have x1:=X.cell 1;have y0:=Y.cell 0;have y1:=Y.cell 1;have z0:=Y.fz 0;have z1:=Y.fz 1;have zl:=Y.lt;simp at x0 x1 y0 y1;have HW:=Hd hW;clear hW X Y;go_enter Tryz.func73,Tryz.ntmps73;go_upto_region 1 with fail
 rw [HW.out];clear HW;go_wp2_with fail;refine bodyPost_ret (v:=.agg #[.int .i64 n.house,.int .i64 n.num]) (by simp [results,Tryz.results73,go_sem,y0,y1,zl]) rfl ?_
 exact ⟨rfl,(hbW.setCell (by simp) _).setCell (by simp) _⟩
end
end Go.Proofs.YteihcodicfoiaaaGreat
