/-
  What is proved: contracts and plain facts that TopForget stands on (RightP, StoP, WrA, WrQ, WrB, WrC, WrD, WrE, WrM).
-/
import Derived.Test.YteihcodicfoiaaaGreatRightMf
import Derived.Test.YteihcodicfoiaaaGreatSetFMf
import Derived.Test.YteihcodicfoiaaaGreatTellMf
import Derived.Test.YteihcodicfoiaaaGreat2Mf
import Derived.Test.YteihcodicfoiaaaGreatCheckBMf
import Derived.Test.YteihcodicfoiaaaGreat40Mf
import Derived.Test.YteihcodicfoiaaaGreatEach2Mf
import Derived.Test.YteihcodicfoiaaaGreat21Mf
import Derived.Test.YteihcodicfoiaaaGreat25Mf
namespace Go.Proofs.YteihcodicfoiaaaGreat
set_option maxHeartbeats 4000000
set_option maxRecDepth 100000
open Go Go.RowKit
section
theorem same0 (a:Ab):Fy a Bq=true↔((a.house=0/\a.num=0/\a.clock=0/\a.day=0/\a.kind=0/\a.stone=0/\a.heap=0/\a.turns=0/\a.a=0/\a.b=0/\a.ring=0/\a.rh=0/\a.rn=0/\a.fix=0)/\(a.hlo=0/\a.hhi=0)/\(a.dlo=0/\a.dhi=0)/\a.strokes=[]):=by
 simp [Fy,numsL,Bq]
 intros
 exact decide_eq_true_iff
theorem saidN_plain (k:Int) (n:Ab):∃ c d,Az k n.plain = { Az k n with sA:=c,sc:=d }:=by
 unfold Az
 split
 ·exact ⟨none,0,rfl⟩
 ·split
  ·exact ⟨none,0,rfl⟩
  ·split
   ·exact ⟨none,0,rfl⟩
   ·split
    ·exact ⟨none,0,rfl⟩
    ·split
     ·exact ⟨none,0,rfl⟩
     ·exact ⟨none,0,rfl⟩
theorem Kq (f:FrD) (n:Ab):Ar f n.plain=Ar f n:=by
 have h1:∀ k,Dd f k n.plain=Dd f k n:=fun k=>rfl
 have h2:Fy (Gc n.plain) Bq=Fy (Gc n) Bq:=by
  have key:∀ a b:Ab,(∃ c d,b = { a with sA:=c,sc:=d })->Fy b Bq=Fy a Bq:=by
   rintro a b ⟨c,d,rfl⟩;rfl
  refine key _ _ ?_;unfold Gc Fz;have hk:n.plain.kind=n.kind:=rfl;have hx:n.plain.fix=n.fix:=rfl;rw [hk,hx]
  split
  ·obtain ⟨c,d,e⟩:=saidN_plain 2 n;exact ⟨c,d,by rw [e]⟩
  ·split
   ·have e5:Az 5 n.plain=(Az 5 n).plain:=by simp [Az,Ab.plain]
    obtain ⟨c,d,e⟩:=saidN_plain n.fix (Az 5 n);exact ⟨c,d,by rw [e5,e]⟩
   ·obtain ⟨c,d,e⟩:=saidN_plain n.kind n;exact ⟨c,d,by rw [e]⟩
 have h3:ok1 f n.plain=ok1 f n:=by
  unfold ok1;have hk:n.plain.kind=n.kind:=rfl;have hx:n.plain.fix=n.fix:=rfl;rw [hk,hx,h1,h1,h1];have e5:Az 5 n.plain=(Az 5 n).plain:=by simp [Az,Ab.plain]
  rw [e5];rfl
 show (ok1 f n.plain && ((inB n.house 1 8 && inB n.num 1 400) && (inB n.clock 1 1099511627776 && (inB n.day 0 99999 && Fy (Gc n.plain) Bq))))=_
 rw [h2,h3];rfl
theorem counts_formed {f:FrD} {r j:Ab} (hr:Ar f r=true) (hj:Ar f j=true) (h5:j.kind=5) (hc:j.fix≠2\/r.kind=2):Ar f (Eq r j)=true:=by
 have hfx:=(formed_ok hj).1.2.1 h5;unfold Ar at hr hj ⊢;simp only [Bool.and_eq_true] at hr hj ⊢;obtain ⟨hr1,⟨hr2,hr3⟩,hr4,hr5,hr6⟩:=hr;obtain ⟨hj1,⟨hj2,hj3⟩,hj4,hj5,hj6⟩:=hj;rw [same0] at hj6
 by_cases f2:j.fix=2
 ·have hrk:r.kind=2:=hc.resolve_left (fun h=>h f2)
  unfold ok1 at hj1 hr1;rw [if_neg (by omega),if_pos h5,f2] at hj1
  rw [if_pos hrk] at hr1;unfold Gc Fz at hj6;rw [if_neg (by omega),if_pos h5,f2] at hj6
  unfold Eq;rw [if_pos f2,f2];rw [same0];simp [ok1,Gc,Fz,Az,Dd] at *
  simp_all
 ·have f3:j.fix=1\/j.fix=3\/j.fix=4:=by omega
  unfold ok1 at hj1;rw [if_neg (by omega),if_pos h5] at hj1
  unfold Gc Fz at hj6;rw [if_neg (by omega),if_pos h5] at hj6
  unfold Eq;rw [if_neg f2];rw [same0];rcases f3 with g | g | g<;>rw [g] at hj1 hj6 ⊢<;>simp [ok1,Gc,Fz,Az,Dd] at *<;>simp_all
theorem evs_formed {f:FrD} {l:List Ab} (h:∀ n∈l,Ar f n=true):∀ m∈Jv l,Ar f m=true:=by
 intro m hm;obtain ⟨n,hn,he⟩:=List.mem_filterMap.1 hm;unfold eff at he
 split at he
 ·cases hb:best (l.filter (cand n)) with
  | none =>
   rw [hb] at he;simp only [effOf] at he;injection he with he
   subst he;exact h n hn
  | some j =>
   rw [hb] at he;simp only [effOf] at he
   split at he
   ·cases he
   ·rename_i h6;injection he with he
    have hj:=List.mem_filter.1 (best_mem hb);have:=hj.2;unfold cand Jp at this;simp only [Bool.and_eq_true,Bool.or_eq_true,beq_iff_eq,bne_iff_ne] at this;subst he;rcases this.2.2 with g | g
    ·exact absurd g h6
    ·exact counts_formed (h n hn) (h j hj.1) g.1 g.2
 ·cases he
theorem evStep_keep (L:List EvD):∀ s:List EvD×List EvD,
  ((∀ e∈s.1,e.note.kind=1)/\∀ e∈s.2,e.note.kind≠1/\(e.note.kind=2->(e.note.rh,e.note.rn)∈s.1.map fun e=>(e.eh,e.en)))->
  ((∀ e∈(L.foldl Dc s).1,e.note.kind=1)/\∀ e∈(L.foldl Dc s).2,e.note.kind≠1/\(e.note.kind=2->(e.note.rh,e.note.rn)∈(L.foldl Dc s).1.map fun e=>(e.eh,e.en))):=by
 induction L with
 | nil=>exact fun s h=>h
 | cons x L ih =>
  intro s h;rw [List.foldl_cons]
  apply ih
  unfold Dc
  split
  ·rename_i h1
   split
   ·exact h
   ·refine ⟨fun e he=>?_,fun e he=>?_⟩
    ·rcases List.mem_append.1 he with g | g
     ·exact h.1 e g
     ·rw [List.mem_singleton.1 g];exact h1
    ·have:=h.2 e he;exact ⟨this.1,fun k=>by rw [List.map_append];exact List.mem_append_left _ (this.2 k)⟩
  ·rename_i h1
   split
   ·rename_i h2
    split
    ·rename_i h0;refine ⟨h.1,fun e he=>?_⟩
     rcases List.mem_append.1 he with g | g
     ·exact h.2 e g
     ·rw [List.mem_singleton.1 g];exact ⟨h1,fun _=>(heapE_zero _ _ _).1 h0⟩
    ·exact h
   ·rename_i h2;refine ⟨h.1,fun e he=>?_⟩
    rcases List.mem_append.1 he with g | g
    ·exact h.2 e g
    ·rw [List.mem_singleton.1 g];exact ⟨h1,fun k=>absurd k h2⟩
theorem evReg_keep (L:List EvD):(∀ e∈(Bi L).1,e.note.kind=1)/\∀ e∈(Bi L).2,e.note.kind≠1/\(e.note.kind=2->Hg (Bi L).1 e.note.rh e.note.rn=0):=by
 have:=evStep_keep L ([],[]) ⟨(fun e h=>by cases h),(fun e h=>by cases h)⟩
 exact ⟨this.1,fun e he=>⟨(this.2 e he).1,fun k=>(heapE_zero _ _ _).2 ((this.2 e he).2 k)⟩⟩
theorem evStep_sub (L:List EvD):∀ s:List EvD×List EvD,∃ K,K.Sublist L/\((L.foldl Dc s).1 ++ (L.foldl Dc s).2).Perm (s.1 ++ s.2 ++ K):=by
 induction L with
 | nil=>exact fun s=>⟨[],List.Sublist.refl _,by simp⟩
 | cons x L ih =>
  intro s;rw [List.foldl_cons];obtain ⟨K,hK,hp⟩:=ih (Dc s x);have:(Dc s x).1 ++ (Dc s x).2=s.1 ++ s.2\/((Dc s x).1 ++ (Dc s x).2).Perm (s.1 ++ s.2 ++ [x]):=by
   unfold Dc
   split
   ·split
    ·exact .inl rfl
    ·refine .inr ?_
     show (s.1 ++ [x] ++ s.2).Perm _
     rw [List.append_assoc,List.append_assoc];exact List.Perm.append_left _ List.perm_append_comm
   ·split
    ·split
     ·exact .inr (by show (s.1 ++ (s.2 ++ [x])).Perm _;rw [List.append_assoc])
     ·exact .inl rfl
    ·exact .inr (by show (s.1 ++ (s.2 ++ [x])).Perm _;rw [List.append_assoc])
  rcases this with h | h
  ·exact ⟨K,hK.cons _,by rw [h] at hp;exact hp⟩
  ·refine ⟨x :: K,hK.cons_cons _,hp.trans ?_⟩;have:=h.append_right K
   simpa using this
theorem evReg_names (L:List EvD) (h:(L.map fun e=>(e.eh,e.en)).Nodup):(((Bi L).1 ++ (Bi L).2).map fun e=>(e.eh,e.en)).Nodup:=by
 obtain ⟨K,hK,hp⟩:=evStep_sub L ([],[]);exact (hp.map _).nodup_iff.2 (List.Nodup.sublist (by simpa using hK.map _) h)
theorem SetR.events {b:Al} {l L:List Ab} {H E:List EvD} (h:SetR b l L H E):∀ m∈L,Ar b.fr m=true:=by
 intro m hm;have h1:∀ n∈l.map Ab.plain,Ar b.fr n=true:=fun n hn=>by
  obtain ⟨x,hx,rfl⟩:=List.mem_map.1 hn;rw [Kq];exact setB_formed h.set x hx
 have h2:=evs_formed h1 m.plain (h.perm.mem_iff.1 (List.mem_map.2 ⟨m,hm,rfl⟩))
 rwa [Kq] at h2
theorem SetR.nodup {b:Al} {l L:List Ab} {H E:List EvD} (h:SetR b l L H E):(L.map Ab.name).Nodup:=by
 have h2:=h.perm.map Ab.name;rw [Gd] at h2;refine h2.nodup_iff.2 ?_;have h3:=evs_names (N:=l.map Ab.plain) (l.map Ab.plain);rw [Gd] at h3;exact h3.nodup (Ka h.set)
theorem SetR.mem {b:Al} {l L:List Ab} {H E:List EvD} (h:SetR b l L H E):∀ e∈H ++ E,∃ m∈L,e=Ay m:=by
 intro e he;rw [h.hh,h.ee] at he;rcases List.mem_append.1 he with g | g
 ·exact (evReg_mem L).1 e g
 ·exact (evReg_mem L).2 e g
theorem SetR.right {b:Al} {l L:List Ab} {H E:List EvD} (h:SetR b l L H E):RightOk b.fr H E:=by
 have hk:=evReg_keep (L.map Ay);rw [<- h.hh,<- h.ee] at hk;refine ⟨h.h8,by have:=h.e10;omega,fun e he=>?_,?_,hk.1,hk.2⟩
 ·obtain ⟨m,hm,rfl⟩:=h.mem e he;have:=h.kind m hm;exact ⟨(isDone_iff m).2 ⟨this.1,this.2.1⟩,h.events m hm,rfl⟩
 ·rw [h.hh,h.ee]
  apply evReg_names
  rw [List.map_map];exact h.nodup
theorem SetR.st200 {b:Al} {l L:List Ab} {H E:List EvD} (h:SetR b l L H E):∀ e∈H ++ E,e.note.strokes.length<=200:=by
 intro e he;obtain ⟨m,hm,rfl⟩:=h.mem e he;exact (h.kind m hm).2.2
theorem strokesB_each {f:FrD} {l:List Int} (h:Fx f l=true):(1<=l.length/\l.length<=200)/\∀ s∈l,0<=s/\s+f.wide<=f.sec:=by
 have hl:=h;unfold Fx at h;simp only [Bool.and_eq_true] at h;obtain ⟨h1,h2⟩:=h;refine ⟨by unfold inB at h2;simp at h2;omega,fun s hs=>?_⟩
 obtain ⟨k,hk,rfl⟩:=List.getElem_of_mem hs;rw [List.all_eq_true] at h1;have:=h1 k (List.mem_range.2 hk);unfold sBad at this;simp [Aj _ _ hk,hk,inB] at this;omega
theorem formed_tell {b:Al} {n:Ab} (h:Ar b.fr n=true) (hd:1<=n.kind/\n.kind<=4) (h1:n.kind≠1):TellOk b n:=by
 unfold Ar at h;simp only [Bool.and_eq_true] at h;have ho:=h.1;unfold ok1 at ho;refine ⟨by omega,fun k=>?_,fun k=>?_,fun k=>?_⟩
 ·rw [if_pos k] at ho;simp only [Bool.and_eq_true] at ho;have:=ho.1;simp [Dd,inB] at this;omega
 ·rw [if_neg (by omega),if_neg (by omega),k] at ho
  simp only [Dd,show ¬ ((4:Int)=1) by omega,show ¬ ((4:Int)=2) by omega,show ¬ ((4:Int)=3) by omega,if_false,if_true,Bool.and_eq_true] at ho
  have ho2:=ho.2.1;unfold inB at ho2;rw [decide_eq_true_eq] at ho2;have e:b.fr.rings=b.bed.rings:=rfl;exact ⟨ho2.1,by omega⟩
 ·rw [if_neg (by omega),if_neg (by omega),k] at ho
  simp only [Dd,show ¬ ((4:Int)=1) by omega,show ¬ ((4:Int)=2) by omega,show ¬ ((4:Int)=3) by omega,if_false,if_true,Bool.and_eq_true] at ho
  exact strokesB_each ho.2.2
theorem SetR.tell {b:Al} {l L:List Ab} {H E:List EvD} (h:SetR b l L H E):∀ e∈E,TellOk b e.note:=by
 intro e he;have hk:=evReg_keep (L.map Ay);rw [<- h.hh,<- h.ee] at hk;obtain ⟨m,hm,rfl⟩:=h.mem e (List.mem_append_right _ he);exact formed_tell (h.events m hm) (by have:=h.kind m hm;exact ⟨this.1,this.2.1⟩) (hk.2 _ he).1
end
section
def cntOf (f:Flr) (ixF:Flr->Nat->Nat->Nat->Nat):List Int:=Gx f ixF (f.R*f.S*f.S)
theorem cntOf_len (f:Flr) (ixF:Flr->Nat->Nat->Nat->Nat):(cntOf f ixF).length=f.R*f.S:=cntL_len _ _ _
theorem RS_of {b:Al} (h:b.fr.Ok) (hf:b.Few):((b.flr.R*b.flr.S:Nat):Int)=b.bed.rings*b.bed.sec/\b.flr.R<=4/\b.flr.S<=6:=by
 have h1:=h.r0;have h2:=h.s0;simp only [Al.fr] at h1 h2;have e1:((b.bed.rings.toNat:Nat):Int)=b.bed.rings:=by omega
 have e2:((b.bed.sec.toNat:Nat):Int)=b.bed.sec:=by omega
 refine ⟨?_,?_,?_⟩
 ·show ((b.bed.rings.toNat*b.bed.sec.toNat:Nat):Int)=_
  rw [Int.natCast_mul,e1,e2]
 ·have:=hf.rings;show b.bed.rings.toNat<=4;omega
 ·have:=hf.sec;show b.bed.sec.toNat<=6;omega
theorem cntOf_upto {b:Al} (h:b.fr.Ok) (hf:b.Few) (ixF:Flr->Nat->Nat->Nat->Nat):Kn 1000 (cntOf b.flr ixF):=by
 obtain ⟨_,h1,h2⟩:=RS_of h hf;have h3:b.flr.R*b.flr.S<=4*6:=Nat.mul_le_mul h1 h2;have h4:b.flr.R*b.flr.S*b.flr.S<=4*6*6:=Nat.mul_le_mul h3 h2;intro x hx;obtain ⟨k,hk,rfl⟩:=List.getElem_of_mem hx;have:=cntL_bd b.flr ixF (b.flr.R*b.flr.S*b.flr.S) k;have e:(cntOf b.flr ixF)[k]=(Gx b.flr ixF (b.flr.R*b.flr.S*b.flr.S)).getD k 0:=(Aj _ _ hk).symm;rw [e];exact ⟨this.1,by have:=this.2;omega⟩
def Hr (b:Al) (stone:Int) (cnt:List Int) (H E:List EvD):List Bh×List Da:=E.foldl (fun s e=>Fh b stone cnt H s e.note) ([],[])
theorem toldF_snoc (b:Al) (stone:Int) (cnt:List Int) (H E:List EvD) (e:EvD):Hr b stone cnt H (E ++ [e])=Fh b stone cnt H (Hr b stone cnt H E) e.note:=by simp [Hr,List.foldl_append]
theorem tellF_len (b:Al) (stone:Int) (cnt:List Int) (H:List EvD) (s:List Bh×List Da) (n:Ab):(Fh b stone cnt H s n).1.length<=s.1.length+1/\(Fh b stone cnt H s n).2.length<=s.2.length+1:=by
 unfold Fh
 split
 ·exact ⟨Nat.le_succ _,Nat.le_succ _⟩
 ·split
  ·simp
  ·split<;>simp
theorem toldF_len (b:Al) (stone:Int) (cnt:List Int) (H:List EvD) (E:List EvD):(Hr b stone cnt H E).1.length<=E.length/\(Hr b stone cnt H E).2.length<=E.length:=by
 have:∀ (E:List EvD) (s:List Bh×List Da),(E.foldl (fun s e=>Fh b stone cnt H s e.note) s).1.length<=s.1.length+E.length/\(E.foldl (fun s e=>Fh b stone cnt H s e.note) s).2.length<=s.2.length+E.length:=by
  intro E
  induction E with
  | nil=>exact fun s=>⟨Nat.le_refl _,Nat.le_refl _⟩
  | cons e E ih =>
   intro s;rw [List.foldl_cons];have h1:=ih (Fh b stone cnt H s e.note);have h2:=tellF_len b stone cnt H s e.note;simp only [List.length_cons];omega
 have:=this E ([],[])
 simpa [Hr] using this
def tell0 (b:Al) (z:Df) (stone:Int) (A:Option Addr) (n c:Nat):Array Value :=
 #[.int .i64 b.bed.rings,.int .i64 b.bed.sec,.int .i64 b.wide,
  .int .i64 b.bed.eye,.int .i64 b.bed.rings,.int .i64 b.bed.sec,.slice z.bed.1 b.bed.kinds.length z.bed.2,
  .int .i64 b.run.eye,.int .i64 b.run.rings,.int .i64 b.run.sec,.slice z.run.1 b.run.kinds.length z.run.2,
  .slice z.drive.1 b.drive.length z.drive.2,
  .int .i64 b.lift,.int .i64 b.top,.slice z.grades.1 b.grades.length z.grades.2,.int .i64 b.slo,.int .i64 b.shi,
  .slice z.s0.1 b.s0.length z.s0.2,.slice z.s1.1 b.s1.length z.s1.2,.slice z.a0.1 b.a0.length z.a0.2,.slice z.a1.1 b.a1.length z.a1.2,
  .int .i64 b.dlo,.int .i64 b.dhi,.int .i64 b.wide,.slice z.caps.1 b.caps.length z.caps.2,.slice z.reach.1 b.reach.length z.reach.2,
  .slice z.compass.1 b.compass.length z.compass.2,.slice z.pockets.1 b.pockets.length z.pockets.2,.int .i64 b.tol,
  .slice z.meshes.1 b.meshes.length z.meshes.2,.int .i64 b.houses,
  .int .i64 stone,.slice none 0 0,.slice A n c,.slice none 0 0,.slice none 0 0,.slice none 0 0]
theorem tell0_put (b:Al) (z:Df) (stone:Int) (A:Option Addr) (n c gc N:Nat):(tell0 b z stone A n c).setIfInBounds 32 (.slice (some ⟨gc,0,none⟩) N N)=Cx b z stone gc N N ⟨A,c,none,0,none,0,none,0⟩ n 0 0 0:=rfl
noncomputable def buildT (t:TypeId) (ps:Array (Nat×Value)):Sem Value:=Instr.build t ps
theorem buildT_run (t:TypeId) (ps:Array (Nat×Value)) (w:World):Sem.run Tryz.prog (buildT t ps) w=buildSN t ps w:=rfl
theorem builds_at118 (ps:Array (Nat×Value)):Instr.build 118 ps=buildT 118 ps:=rfl
theorem build118 (b:Al) (z:Df) (stone:Int) (A:Option Addr) (n c:Nat) (W:World) :
  buildSN 118 #[(0,.agg #[.int .i64 b.bed.rings,.int .i64 b.bed.sec,.int .i64 b.wide]),(1,.agg (b.arr z)),(2,.int .i64 stone),(4,.agg #[.slice A n c,.slice none 0 0,.slice none 0 0,.slice none 0 0])] W=.ok (.agg (tell0 b z stone A n c)) W:=by
 unfold buildSN;kernel_rfl
theorem clone_spans_own (A:Option Addr) (c n:Nat) (xs:List Value) (w:World) (hn:n<=65536) (hl:xs.length=n*2) (h1:Fo xs) (hx:Ad w A xs) :
  Calls Tryz.prog 37 #[.slice A n c] w fun e w'=>(∃ A' c',e=.returned (.slice A' n c')/\w'.ownsRow w.heap.size 29 2 (.slice A' n c') n xs)/\Below w.heap.size w w':=by
 by_cases h0:0<n
 ·obtain ⟨b,off,rfl,hr⟩:=hx.some_ (by omega)
  refine (clone_spans_some b off c n xs w hn hl h1 hr).mono ?_;rintro e w' ⟨v,rfl,hown,hb⟩;obtain ⟨A',c',rfl,_,h3,h4⟩:=Au hown;exact ⟨⟨A',c',rfl,hown⟩,hb⟩
 ·obtain rfl:n=0:=by omega
  obtain rfl:xs=[]:=List.eq_nil_of_length_eq_zero (by omega)
  cases A with
  | none =>
   refine (clone_spans_nil' c w).mono ?_;rintro e w' ⟨rfl,rfl⟩;exact ⟨⟨none,0,rfl,World.ownsRow_nil _ _ _ _⟩,Below.refl _ _⟩
  | some a =>
   refine (clone_spans_zero a c w).mono ?_;rintro e w' ⟨v,rfl,hown,hb⟩;obtain ⟨A',c',rfl,_,h3,_⟩:=Au hown;exact ⟨⟨A',c',rfl,hown⟩,hb⟩
end
section
structure Ap where
 st:List (Int×Int)
 hp:List (Int×Int)
 S:List Bh
 R:List Da
 A1:Option Addr
 c1:Nat
 A2:Option Addr
 c2:Nat
 A3:Option Addr
 c3:Nat
 A4:Option Addr
 c4:Nat
def Ap.arr (D:Ap):Array Value:=#[.slice D.A1 D.st.length D.c1,.slice D.A2 D.hp.length D.c2,.slice D.A3 D.S.length D.c3,.slice D.A4 D.R.length D.c4]
structure Ap.At (D:Ap) (w:World):Prop where
 r1:Ad w D.A1 (Am D.st)
 r2:Ad w D.A2 (Am D.hp)
 r3:Ad w D.A3 (Kt D.S)
 r4:Ad w D.A4 (rdCells D.R)
 tm:∀ s∈D.S,Ad w s.tA (Ac s.times)
theorem Ap.At.below {D:Ap} {w w':World} (h:D.At w) (hb:Below w.heap.size w w'):D.At w' :=
 ⟨h.r1.below hb,h.r2.below hb,h.r3.below hb,h.r4.below hb,fun s hs=>(h.tm s hs).below hb⟩
structure StepOk (n nh:Nat) (s:Bh):Prop where
 len:s.times.length=n
 kind:(s.kind=1/\(0<=s.heap/\s.heap<nh)/\(s.dlo=0/\s.dhi=0)/\∀ t∈s.times,0<=t/\t<=10000000)\/
  (s.kind=2/\s.heap=0/\(0<=s.dlo/\s.dlo<=s.dhi/\s.dhi<=100000)/\∀ t∈s.times,0<=t/\t<=100)
structure ReadOk (n m:Nat) (r:Da):Prop where
 sl:0<=r.sl/\r.sl<=m
 a:0<=r.a/\r.a<n
 b:-1<=r.b/\r.b<n
 ne:r.a≠r.b
 d:-1000000000<=r.lo/\r.lo<=r.hi/\r.hi<=1000000000
def Ew:List (Int×Int)->Int
 | []=>1
 | h :: l=>(h.2 - h.1+1)*Ew l
structure Ap.Ok (D:Ap):Prop where
 n:1<=D.st.length/\D.st.length<=24
 h8:D.hp.length<=8
 s10:D.S.length<=10
 r10:D.R.length<=10
 st:∀ x∈D.st,-100000<=x.1/\x.1<=x.2/\x.2<=100000
 hp:∀ x∈D.hp,1<=x.1/\x.1<=x.2/\x.2<=255
 sp:∀ s∈D.S,StepOk D.st.length D.hp.length s
 rd:∀ r∈D.R,ReadOk D.st.length D.S.length r
 wd:Ew D.hp<=12
def Ku (s:Bh):Bool:=s.kind == 2 || s.times.all fun t=>inB t 0 1000000
def Ap.good (D:Ap):Bool:=D.S.all Ku
theorem Jg (n lo hi:Int) (w:World) :
  Calls Tryz.prog 96 #[.int .i64 n,.int .i64 lo,.int .i64 hi] w fun e w'=>e=.returned (.bool (inB n lo hi))/\w=w':=by
 by_cases h1:n>=lo
 ·by_cases h2:n<=hi
  all_goals
   go_enter Tryz.func96,Tryz.ntmps96;go_wp2_with fail;go_ret;exact ⟨Af (by simp [inB];omega),rfl⟩
 ·go_enter Tryz.func96,Tryz.ntmps96;go_wp2_with fail;go_ret;exact ⟨Af (by simp [inB];omega),rfl⟩
theorem wspan_any (l h lo hi:Int) (w:World) :
  Calls Tryz.prog 214 #[.agg #[.int .i64 l,.int .i64 h],.int .i64 lo,.int .i64 hi] w fun e w'=>e=.returned (.bool (Cf l h lo hi))/\Below w.heap.size w w':=by
 obtain ⟨W,hW⟩:∃ W,w.alloc (.cells #[.int .i64 l,.int .i64 h] 29)=W:=⟨_,rfl⟩;have hbW:Below w.heap.size w W:=by rw [<- hW];exact Ba
 have X:=(show Bk W w.heap.size 29 #[.int .i64 l,.int .i64 h] by rw [<- hW];exact Aa rfl)
 have x0:=X.cell 0;have x1:=X.cell 1;simp at x0 x1;have HW:=Hd hW;clear hW X
 by_cases h1:lo<=l/\l<=h
 ·have h1':inB l lo h=true:=by simp [inB];omega
  by_cases h3:h<=hi
  all_goals
   go_enter Tryz.func214,Tryz.ntmps214;go_upto_region 1 with fail
   rw [HW.out];clear HW;go_wp2_with (go_at_call 96;refine (Jg _ _ _ _).mono ?_;rintro e w1 ⟨rfl,rfl⟩;try rw [h1'])
   go_ret;exact ⟨Af (by first | (simp [Cf];omega) | simp [Cf,h1.1,h1.2]),hbW⟩
 ·have h1':inB l lo h=false:=by simp [inB];omega
  go_enter Tryz.func214,Tryz.ntmps214;go_upto_region 1 with fail
  rw [HW.out];clear HW;go_wp2_with (go_at_call 96;refine (Jg _ _ _ _).mono ?_;rintro e w1 ⟨rfl,rfl⟩;try rw [h1'])
  go_ret;exact ⟨Af (by simp [Cf];omega),hbW⟩
theorem wspans1_any (lo hi:Int) (q1 q2:Nat) (s:Int×Int) (w:World) (h1:Bk w q1 3 #[.int .i64 lo]) (h2:Bk w q2 3 #[.int .i64 hi]) :
  Calls Tryz.prog 213 #[.agg #[.int .i64 s.1,.int .i64 s.2],.pointer (some ⟨q1,0,none⟩),.pointer (some ⟨q2,0,none⟩)] w fun e w'=>e=.returned (.bool (!Cf s.1 s.2 lo hi))/\Below w.heap.size w w':=by
 obtain ⟨a,b⟩:=s;simp only;obtain ⟨W,hW⟩:∃ W,w.alloc (.cells #[.int .i64 a,.int .i64 b] 29)=W:=⟨_,rfl⟩;have hbW:Below w.heap.size w W:=by rw [<- hW];exact Ba
 have Y:Bk W w.heap.size 29 #[.int .i64 a,.int .i64 b]:=by rw [<- hW];exact Aa rfl
 have y0:=Y.cell 0;have y1:=Y.cell 1;have x1:=(h1.keep hbW).cell 0;have x2:=(h2.keep hbW).cell 0;simp at y0 y1 x1 x2;have HW:=Hd hW;clear hW Y h1 h2;go_enter Tryz.func213,Tryz.ntmps213;go_upto_region 1 with fail
 rw [HW.out];clear HW;go_wp2_with (go_at_call 214;refine (wspan_any _ _ _ _ _).mono ?_;rintro e w1 ⟨rfl,hb1⟩);go_ret;exact ⟨rfl,hbW.trans (hb1.mono hbW.size)⟩
theorem wspn_ix (q1:Nat) (q2:Nat) (A:Option Addr) (c n:Nat) (el:Nat->List Value) (bad:Nat->Bool) (w:World) (hrow:Hw w A 2 n el) (hn:n<=9223372036854775807)
  (hcall:∀ X,Below w.heap.size w X->∀ k,k<n->Calls Tryz.prog 213 (#[.agg (el k).toArray] ++ #[.pointer (some ⟨q1,0,none⟩),.pointer (some ⟨q2,0,none⟩)]) X fun e w'=>e=.returned (.bool (bad k))/\Below X.heap.size X w') :
  Calls Tryz.prog 149 #[.slice A n c,.func (.func 213) #[] #[.pointer (some ⟨q1,0,none⟩),.pointer (some ⟨q2,0,none⟩)]] w fun e w'=>e=.returned (.int .i64 (Cs bad n))/\Below w.heap.size w w':=by
 have HR:=Hd hrow;have HC:=Hd hcall;clear hrow hcall;have hB0:=Below.refl w.heap.size w;go_enter Tryz.func149,Tryz.ntmps149;go_wp2_with fail;go_loopw [8] (fun i wr=>∃ k:Nat,k<=n/\i=.int .i64 k/\Below w.heap.size w wr/\Hid (∀ j,j<k->bad j=false)) (fun i _=>n - (intOf i).toNat)
 case atStart=>exact ⟨0,Nat.zero_le _,rfl,hB0,fun j h=>absurd h (by omega)⟩
 case round =>
  obtain ⟨k,hk,rfl,hBr,hall⟩:=hrel;clear hB0
  by_cases hlt:k<n
  ·have hkI:(k:Int)<n:=by omega
   obtain ⟨b5,o5,hA,hb5,hc5⟩:=(HR.out.below hBr).2 (by omega)
   have hlen:=HR.out.1 k hlt;have HE:=Hd (HC.out wr hBr k hlt);obtain ⟨u0,u1,hel⟩:=list2_of hlen;have c0:wr.cell? ⟨b5,o5+k*2,none⟩=some u0:=by have:=hc5 k hlt 0 u0 (by rw [hel];rfl);simpa using this
   have c1:wr.cell? ⟨b5,o5+k*2+1,none⟩=some u1:=by have:=hc5 k hlt 1 u1 (by rw [hel];rfl);simpa using this
   rw [hel] at HE;change Hid (Calls Tryz.prog 213 #[.agg #[u0,u1],.pointer (some ⟨q1,0,none⟩),.pointer (some ⟨q2,0,none⟩)] wr _) at HE;have HF:Hid (bad k=true->Cs bad n=k):=fun h=>Es hlt hall.out h
   have HN:Hid (bad k=false->∀ j,j<k+1->bad j=false):=fun h=>Fq hall.out h
   rw [hA];clear hA hc5 hlen hel hall;cases hs:bad k
   ·rw [hs] at HE;have HN2:=Hd (HN.out hs);clear HN HF hs;go_wp2_with (go_at_call 213;refine HE.out.mono ?_;rintro e w1 ⟨rfl,hb1⟩);have hB1:=hBr.trans (hb1.mono hBr.size);go_roundw
    case rel=>exact ⟨k+1,by omega,by go_num,hB1,HN2⟩
    case measure=>simp [intOf];omega
   ·rw [hs] at HE;have HF2:=Hd (HF.out hs);clear HN HF hs;go_wp2_with (go_at_call 213;refine HE.out.mono ?_;rintro e w1 ⟨rfl,hb1⟩);go_ret;exact ⟨Cb HF2.out.symm,hBr.trans (hb1.mono hBr.size)⟩
  ·obtain rfl:k=n:=by omega
   have HF:=Hd (Ea hall.out);clear hall;go_wp2;go_ret;exact ⟨Cb HF.out.symm,hBr⟩
theorem wspn_has (q1:Nat) (q2:Nat) (A:Option Addr) (c n:Nat) (el:Nat->List Value) (bad:Nat->Bool) (w:World) (hrow:Hw w A 2 n el) (hn:n<=9223372036854775807)
  (hcall:∀ X,Below w.heap.size w X->∀ k,k<n->Calls Tryz.prog 213 (#[.agg (el k).toArray] ++ #[.pointer (some ⟨q1,0,none⟩),.pointer (some ⟨q2,0,none⟩)]) X fun e w'=>e=.returned (.bool (bad k))/\Below X.heap.size X w') :
  Calls Tryz.prog 98 #[.slice A n c,.func (.func 213) #[] #[.pointer (some ⟨q1,0,none⟩),.pointer (some ⟨q2,0,none⟩)]] w fun e w'=>e=.returned (.bool (Fd bad n))/\Below w.heap.size w w':=by
 have HI:=Hd (wspn_ix q1 q2 A c n el bad w hrow hn hcall);have HG:=Hd (Et bad n);clear hrow hcall;go_enter Tryz.func98,Tryz.ntmps98;go_wp2_with (go_at_call 149;refine HI.out.mono ?_;rintro e w1 ⟨rfl,hb1⟩);go_ret;exact ⟨Af HG.out,hb1⟩
theorem wspans_any (A:Option Addr) (c:Nat) (l:List (Int×Int)) (lo hi:Int) (w:World) (hL:Ad w A (Am l)) (hn:l.length<=1000) (hok:∀ x∈l,lo<=x.1/\x.1<=x.2/\x.2<=hi) :
  Calls Tryz.prog 183 #[.slice A l.length c,.int .i64 lo,.int .i64 hi] w fun e w'=>e=.returned (.bool true)/\Below w.heap.size w w':=by
 obtain ⟨W,hW⟩:∃ W,(w.alloc (.cells #[.int .i64 lo] 3)).alloc (.cells #[.int .i64 hi] 3)=W:=⟨_,rfl⟩;have hbW:Below w.heap.size w W:=by rw [<- hW];exact Ba.alloc (by simp) _
 have X:=(show Bk W w.heap.size 3 #[.int .i64 lo] by rw [<- hW];exact (Aa rfl).alloc _)
 have Y:=(show Bk W (w.heap.size+1) 3 #[.int .i64 hi] by rw [<- hW];exact Aa (by simp))
 have HC:=Hd (wspn_has w.heap.size (w.heap.size+1) A c l.length _ (fun k=>!Cf (l.getD k (0,0)).1 (l.getD k (0,0)).2 lo hi) W (Hw.of_row (fun x:Int×Int=>[Value.int .i64 x.1,.int .i64 x.2]) (fun _=>rfl) (by omega) (0,0) (hL.below hbW)) (by omega) (fun V hV k hk=>wspans1_any lo hi w.heap.size (w.heap.size+1) (l.getD k (0,0)) V (X.keep hV) (Y.keep hV)))
 have HQ:Hid (Fd (fun k=>!Cf (l.getD k (0,0)).1 (l.getD k (0,0)).2 lo hi) l.length=false):=Fu.2 fun k hk=>by
  have:=hok _ (List.getElem_mem hk);rw [Aj _ _ hk];simp [Cf];omega
 have HW:=Hd hW;clear hW hL X Y hok;rw [HQ.out] at HC;clear HQ;go_enter Tryz.func183,Tryz.ntmps183;go_upto_region 1 with fail
 rw [HW.out];clear HW;go_wp2_with (go_at_call 98;refine HC.out.mono ?_;rintro e w1 ⟨rfl,hb1⟩);go_ret;exact ⟨rfl,hbW.trans (hb1.mono hbW.size)⟩
end
section
structure Ao where
 fr:Int×Int
 dst:Int×Int
 most:Int
 kind:Int
 id:Int
def Ao.cells (b:Ao):List Value:=[.int .i64 b.fr.1,.int .i64 b.fr.2,.int .i64 b.dst.1,.int .i64 b.dst.2,.int .i64 b.most,.int .i64 b.kind,.int .i64 b.id]
def gnd:Int×Int:=(-1,0)
def Ey (a z:Int×Int) (most back kind id:Int):List Ao:=[⟨a,z,most,kind,id⟩,⟨z,a,back,kind,id⟩]
def Ef (s:Bh) (c:Nat) (wd:List Int):Int×Int :=
 if s.kind=1 then (s.times.getD c 0*wd.getD s.heap.toNat 0,s.times.getD c 0*wd.getD s.heap.toNat 0) else (s.times.getD c 0*s.dlo,s.times.getD c 0*s.dhi)
def bndSt (st:List (Int×Int)) (k:Nat):List Ao:=(List.range k).flatMap fun c:Nat=>Ey gnd ((c:Int),0) (st.getD c (0,0)).2 (-(st.getD c (0,0)).1) 1 c
def Km (s:Bh) (i:Nat) (wd:List Int) (k:Nat):List Ao:=(List.range k).flatMap fun c:Nat=>Ey ((c:Int),(i:Int)) ((c:Int),(i:Int)+1) (-(Ef s c wd).1) (Ef s c wd).2 2 i
def bndSp (n:Nat) (S:List Bh) (wd:List Int) (k:Nat):List Ao:=(List.range k).flatMap fun i:Nat=>Km (S.getD i ⟨0,0,[],none,0,0,0⟩) i wd n
def Jd (r:Da):Int×Int:=if r.b<0 then gnd else (r.b,r.sl)
def Jy (R:List Da) (k:Nat):List Ao:=(List.range k).flatMap fun j:Nat=>Ey (Jd (R.getD j ⟨0,0,0,0,0⟩)) ((R.getD j ⟨0,0,0,0,0⟩).a,(R.getD j ⟨0,0,0,0,0⟩).sl) (R.getD j ⟨0,0,0,0,0⟩).hi (-(R.getD j ⟨0,0,0,0,0⟩).lo) 3 j
def baseF (D:Ap) (wd:List Int):List Ao:=bndSt D.st D.st.length ++ bndSp D.st.length D.S wd D.S.length
def Ae (D:Ap) (wd:List Int):List Ao:=baseF D wd ++ Jy D.R D.R.length
theorem Gp {α:Type} (f:Nat->List α) (k:Nat):(List.range (k+1)).flatMap f=(List.range k).flatMap f ++ f k:=by
 rw [List.range_succ,List.flatMap_append];simp
theorem Kk {a z:Int×Int} {most back kind id:Int} {b:Ao} (h:b∈Ey a z most back kind id):(b.fr=a/\b.dst=z/\b.most=most)\/(b.fr=z/\b.dst=a/\b.most=back):=by
 simp only [Ey,List.mem_cons,List.not_mem_nil,or_false] at h;rcases h with rfl | rfl
 ·exact .inl ⟨rfl,rfl,rfl⟩
 ·exact .inr ⟨rfl,rfl,rfl⟩
/-! ### names -/
def addN (N:List (Int×Int)) (p:Int×Int):List (Int×Int):=if p∈N then N else N ++ [p]
def addB (N:List (Int×Int)) (b:Ao):List (Int×Int):=addN (addN N b.fr) b.dst
def An (L:List Ao):List (Int×Int):=L.foldl addB []
theorem addN_mem (N:List (Int×Int)) (p x:Int×Int):x∈addN N p↔x∈N\/x=p:=by
 unfold addN
 split
 ·rename_i h;exact ⟨.inl,fun g=>g.elim id (fun e=>e ▸ h)⟩
 ·simp
theorem addN_nodup {N:List (Int×Int)} (h:N.Nodup) (p:Int×Int):(addN N p).Nodup:=by
 unfold addN
 split
 ·exact h
 ·rename_i hp;rw [List.nodup_append];refine ⟨h,by simp,fun a ha b hb=>?_⟩
  rw [List.mem_singleton.1 hb];rintro rfl;exact hp ha
theorem addN_len (N:List (Int×Int)) (p:Int×Int):(addN N p).length<=N.length+1:=by
 unfold addN;split<;>simp
theorem addN_of_mem {N:List (Int×Int)} {p:Int×Int} (h:p∈N):addN N p=N:=if_pos h
theorem names_mem (L:List Ao):∀ (N:List (Int×Int)) (x:Int×Int),x∈L.foldl addB N↔x∈N\/∃ b∈L,x=b.fr\/x=b.dst:=by
 induction L with
 | nil=>intro N x;simp
 | cons b L ih =>
  intro N x;rw [List.foldl_cons,ih];unfold addB;rw [addN_mem,addN_mem];simp only [List.mem_cons,exists_eq_or_imp];constructor
  ·rintro (((h | h) | h) | h)
   ·exact .inl h
   ·exact .inr (.inl (.inl h))
   ·exact .inr (.inl (.inr h))
   ·exact .inr (.inr h)
  ·rintro (h | ((h | h) | h))
   ·exact .inl (.inl (.inl h))
   ·exact .inl (.inl (.inr h))
   ·exact .inl (.inr h)
   ·exact .inr h
theorem names_nodup (L:List Ao):∀ N:List (Int×Int),N.Nodup->(L.foldl addB N).Nodup:=by
 induction L with
 | nil=>exact fun N h=>h
 | cons b L ih=>exact fun N h=>ih _ (addN_nodup (addN_nodup h _) _)
theorem names_len (L:List Ao):∀ N:List (Int×Int),(L.foldl addB N).length<=N.length+2*L.length:=by
 induction L with
 | nil=>intro N;simp
 | cons b L ih =>
  intro N;rw [List.foldl_cons];have h1:=ih (addB N b);have h2:=addN_len (addN N b.fr) b.dst;have h3:=addN_len N b.fr;unfold addB at *;simp only [List.length_cons];omega
theorem names_same (L:List Ao):∀ N:List (Int×Int),(∀ b∈L,b.fr∈N/\b.dst∈N)->L.foldl addB N=N:=by
 induction L with
 | nil=>exact fun N _=>rfl
 | cons b L ih =>
  intro N h;have hb:=h b (by simp)
  rw [List.foldl_cons];have e:addB N b=N:=by unfold addB;rw [addN_of_mem hb.1,addN_of_mem hb.2]
  rw [e];exact ih N fun x hx=>h x (by simp [hx])
def Gl (D:Ap) (p:Int×Int):Prop:=p=gnd\/(0<=p.1/\p.1<D.st.length/\0<=p.2/\p.2<=D.S.length)
theorem st_has {D:Ap} {wd:List Int} {c:Nat} (hc:c<D.st.length):∀ b∈Ey gnd ((c:Int),0) (D.st.getD c (0,0)).2 (-(D.st.getD c (0,0)).1) 1 c,b∈baseF D wd:=fun b hb =>
 List.mem_append_left _ (List.mem_flatMap.2 ⟨c,List.mem_range.2 hc,hb⟩)
theorem sp_has {D:Ap} {wd:List Int} {i c:Nat} (hi:i<D.S.length) (hc:c<D.st.length):∀ b∈Ey ((c:Int),(i:Int)) ((c:Int),(i:Int)+1) (-(Ef (D.S.getD i ⟨0,0,[],none,0,0,0⟩) c wd).1) (Ef (D.S.getD i ⟨0,0,[],none,0,0,0⟩) c wd).2 2 i,b∈baseF D wd:=fun b hb =>
 List.mem_append_right _ (List.mem_flatMap.2 ⟨i,List.mem_range.2 hi,List.mem_flatMap.2 ⟨c,List.mem_range.2 hc,hb⟩⟩)
theorem base_mem {D:Ap} {wd:List Int} {b:Ao} (h:b∈baseF D wd):(∃ c,c<D.st.length/\b∈Ey gnd ((c:Int),0) (D.st.getD c (0,0)).2 (-(D.st.getD c (0,0)).1) 1 c)\/
  (∃ i c,i<D.S.length/\c<D.st.length/\b∈Ey ((c:Int),(i:Int)) ((c:Int),(i:Int)+1) (-(Ef (D.S.getD i ⟨0,0,[],none,0,0,0⟩) c wd).1) (Ef (D.S.getD i ⟨0,0,[],none,0,0,0⟩) c wd).2 2 i):=by
 rcases List.mem_append.1 h with h | h
 ·obtain ⟨c,hc,hb⟩:=List.mem_flatMap.1 h;exact .inl ⟨c,List.mem_range.1 hc,hb⟩
 ·obtain ⟨i,hi,hb⟩:=List.mem_flatMap.1 h;obtain ⟨c,hc,hb⟩:=List.mem_flatMap.1 hb;exact .inr ⟨i,c,List.mem_range.1 hi,List.mem_range.1 hc,hb⟩
theorem rd_mem {R:List Da} {b:Ao} (h:b∈Jy R R.length):∃ r∈R,(b.fr=Jd r/\b.dst=(r.a,r.sl)/\b.most=r.hi)\/(b.fr=(r.a,r.sl)/\b.dst=Jd r/\b.most = -r.lo):=by
 obtain ⟨j,hj,hb⟩:=List.mem_flatMap.1 h;have hj:=List.mem_range.1 hj;refine ⟨R[j],List.getElem_mem hj,?_⟩;rw [Aj _ _ hj] at hb;exact Kk hb
theorem mem_rd {R:List Da} {r:Da} (hr:r∈R):(∃ b∈Jy R R.length,b.fr=Jd r/\b.dst=(r.a,r.sl)/\b.most=r.hi)/\∃ b∈Jy R R.length,b.fr=(r.a,r.sl)/\b.dst=Jd r/\b.most = -r.lo:=by
 obtain ⟨j,hj,rfl⟩:=List.getElem_of_mem hr;have h:∀ b∈Ey (Jd R[j]) (R[j].a,R[j].sl) R[j].hi (-R[j].lo) 3 j,b∈Jy R R.length:=fun b hb =>
  List.mem_flatMap.2 ⟨j,List.mem_range.2 hj,by rw [Aj _ _ hj];exact hb⟩
 exact ⟨⟨_,h ⟨Jd R[j],(R[j].a,R[j].sl),R[j].hi,3,j⟩ (by simp [Ey]),rfl,rfl,rfl⟩,⟨_,h ⟨(R[j].a,R[j].sl),Jd R[j],-R[j].lo,3,j⟩ (by simp [Ey]),rfl,rfl,rfl⟩⟩
theorem base_names {D:Ap} (hD:D.Ok) (wd:List Int) {p:Int×Int} (hp:Gl D p):p∈An (baseF D wd):=by
 unfold An;rw [names_mem];right;rcases hp with rfl | ⟨h1,h2,h3,h4⟩
 ·exact ⟨_,st_has (c:=0) (by have:=hD.n;omega) _ (by simp [Ey];left;rfl),.inl rfl⟩
 ·obtain ⟨p1,p2⟩:=p;simp only at h1 h2 h3 h4;obtain ⟨c,rfl⟩:∃ c:Nat,p1=c:=⟨p1.toNat,by omega⟩
  obtain ⟨t,rfl⟩:∃ t:Nat,p2=t:=⟨p2.toNat,by omega⟩
  cases t with
  | zero=>exact ⟨_,st_has (c:=c) (by omega) ⟨gnd,(c,0),_,1,c⟩ (by simp only [Ey,List.mem_cons];left;rfl),.inr rfl⟩
  | succ t=>exact ⟨_,sp_has (i:=t) (c:=c) (by omega) (by omega) ⟨(c,t),(c,t+1),_,2,t⟩ (by simp only [Ey,List.mem_cons];left;rfl),.inr (by simp)⟩
theorem Kl {D:Ap} (hD:D.Ok) (wd:List Int):∀ b∈Ae D wd,Gl D b.fr/\Gl D b.dst:=by
 intro b hb;rcases List.mem_append.1 hb with hb | hb
 ·rcases base_mem hb with ⟨c,hc,hb⟩ | ⟨i,c,hi,hc,hb⟩
  ·have hz:Gl D ((c:Int),0):=.inr (by simp;omega)
   rcases Kk hb with ⟨h1,h2,_⟩ | ⟨h1,h2,_⟩
   ·rw [h1,h2];exact ⟨.inl rfl,hz⟩
   ·rw [h1,h2];exact ⟨hz,.inl rfl⟩
  ·have h3:Gl D ((c:Int),(i:Int)):=.inr (by simp;omega)
   have h4:Gl D ((c:Int),(i:Int)+1):=.inr (by simp;omega)
   rcases Kk hb with ⟨h1,h2,_⟩ | ⟨h1,h2,_⟩
   ·rw [h1,h2];exact ⟨h3,h4⟩
   ·rw [h1,h2];exact ⟨h4,h3⟩
 ·obtain ⟨r,hr,h⟩:=rd_mem hb;have hk:=hD.rd r hr;have h1:Gl D (r.a,r.sl):=.inr ⟨hk.a.1,hk.a.2,hk.sl.1,hk.sl.2⟩;have h2:Gl D (Jd r):=by
   unfold Jd
   split
   ·exact .inl rfl
   ·exact .inr ⟨by simp;omega,hk.b.2,hk.sl.1,hk.sl.2⟩
  rcases h with ⟨e1,e2,_⟩ | ⟨e1,e2,_⟩
  ·rw [e1,e2];exact ⟨h2,h1⟩
  ·rw [e1,e2];exact ⟨h1,h2⟩
theorem names_eq {D:Ap} (hD:D.Ok) (wd:List Int):An (Ae D wd)=An (baseF D wd):=by
 unfold An Ae;rw [List.foldl_append];refine names_same _ _ fun b hb=>?_
 have h:=Kl hD wd b (List.mem_append_right _ hb);exact ⟨base_names hD wd h.1,base_names hD wd h.2⟩
theorem Ho {D:Ap} (hD:D.Ok) (wd:List Int) (p:Int×Int):p∈An (Ae D wd)↔Gl D p:=by
 refine ⟨fun h=>?_,fun h=>by rw [names_eq hD];exact base_names hD wd h⟩
 unfold An at h;rw [names_mem] at h;rcases h with h | ⟨b,hb,rfl | rfl⟩
 ·cases h
 ·exact (Kl hD wd b hb).1
 ·exact (Kl hD wd b hb).2
/-! ### sums -/
theorem bnd_most {D:Ap} (hD:D.Ok) (hg:D.good=true) {wd:List Int} (hw:∀ i,0<=wd.getD i 0/\wd.getD i 0<=255):∀ b∈Ae D wd,-1000000000<=b.most/\b.most<=1000000000:=by
 intro b hb;rcases List.mem_append.1 hb with hb | hb
 ·rcases base_mem hb with ⟨c,hc,hb⟩ | ⟨i,c,hi,hc,hb⟩
  ·have hs:=hD.st _ (List.getElem_mem hc);rw [Aj _ _ hc] at hb;rcases Kk hb with ⟨_,_,h⟩ | ⟨_,_,h⟩<;>rw [h]<;>omega
  ·have hm:D.S.getD i ⟨0,0,[],none,0,0,0⟩∈D.S:=by rw [Aj _ _ hi];exact List.getElem_mem hi
   have hk:=hD.sp _ hm;unfold Ap.good at hg;rw [List.all_eq_true] at hg;have hb1:=hg _ hm;generalize D.S.getD i ⟨0,0,[],none,0,0,0⟩=s at *;have hf:-1000000000 <= -(Ef s c wd).1 /\ -(Ef s c wd).1<=1000000000 /\ -1000000000<=(Ef s c wd).2/\(Ef s c wd).2<=1000000000:=by
    have hct:c<s.times.length:=by rw [hk.len];exact hc
    have ht:s.times.getD c 0∈s.times:=by rw [Aj _ _ hct];exact List.getElem_mem hct
    unfold Ef;rcases hk.kind with ⟨h1,h2,h3,h4⟩ | ⟨h1,h2,h3,h4⟩
    ·rw [if_pos h1];unfold Ku at hb1;rw [h1] at hb1;simp only [show ((1:Int) == 2)=false from rfl,Bool.false_or,List.all_eq_true] at hb1
     have h5:=hb1 _ ht;simp only [inB,decide_eq_true_eq] at h5;have h6:=hw s.heap.toNat;generalize s.times.getD c 0=t at *;generalize wd.getD s.heap.toNat 0=h at *;have a1:0<=t*h:=Int.mul_nonneg h5.1 h6.1;have a2:t*h<=1000000*255:=Int.mul_le_mul h5.2 h6.2 h6.1 (by omega)
     simp only;omega
    ·rw [if_neg (by omega)]
     have h5:=h4 _ ht;generalize s.times.getD c 0=t at *;have a1:0<=t*s.dlo:=Int.mul_nonneg h5.1 h3.1;have a2:t*s.dlo<=100*100000:=Int.mul_le_mul h5.2 (by omega) h3.1 (by omega)
     have a3:0<=t*s.dhi:=Int.mul_nonneg h5.1 (by omega)
     have a4:t*s.dhi<=100*100000:=Int.mul_le_mul h5.2 h3.2.2 (by omega) (by omega)
     simp only;omega
   rcases Kk hb with ⟨_,_,h⟩ | ⟨_,_,h⟩<;>rw [h]<;>omega
 ·obtain ⟨r,hr,h⟩:=rd_mem hb;have hk:=(hD.rd r hr).d;rcases h with ⟨_,_,e⟩ | ⟨_,_,e⟩<;>rw [e]<;>omega
theorem Jo {α β:Type} (f:α->List β) (m:Nat) (l:List α) (h:∀ x∈l,(f x).length=m):(l.flatMap f).length=l.length*m:=by
 induction l with
 | nil=>simp
 | cons a l ih =>
  rw [List.flatMap_cons,List.length_append,h a (by simp),ih fun x hx=>h x (by simp [hx]),List.length_cons,Nat.add_mul]
  omega
theorem bounds_len {D:Ap} (hD:D.Ok) (wd:List Int):(Ae D wd).length<=600:=by
 have h1:(bndSt D.st D.st.length).length=D.st.length*2:=by rw [bndSt,Jo _ 2 _ (fun _ _=>rfl)];simp
 have h2:(bndSp D.st.length D.S wd D.S.length).length=D.S.length*(D.st.length*2):=by
  rw [bndSp,Jo _ (D.st.length*2) _ (fun i _=>by rw [Km,Jo _ 2 _ (fun _ _=>rfl)];simp)];simp
 have h3:(Jy D.R D.R.length).length=D.R.length*2:=by rw [Jy,Jo _ 2 _ (fun _ _=>rfl)];simp
 have h4:D.S.length*(D.st.length*2)<=10*48:=Nat.mul_le_mul hD.s10 (by have:=hD.n;omega)
 have:=hD.n;have:=hD.r10;unfold Ae baseF;rw [List.length_append,List.length_append,h1,h2,h3];omega
/-! ### tables -/
def Di:Int:=4611686018427387904
def ixN (N:List (Int×Int)) (p:Int×Int):Nat:=N.idxOf p
def edF (N:List (Int×Int)) (turned:Bool) (b:Ao):BF.Ed:=if turned then ⟨ixN N b.dst,ixN N b.fr,b.most⟩ else ⟨ixN N b.fr,ixN N b.dst,b.most⟩
def Hy (N:List (Int×Int)) (turned:Bool) (L:List Ao):List BF.Ed:=L.map (edF N turned)
def initF (N:List (Int×Int)):BF.St:=⟨(List.replicate N.length Di).set (ixN N gnd) 0,List.replicate N.length (-1),false⟩
def relF (N:List (Int×Int)) (turned:Bool) (L:List Ao):Option BF.St:=BF.rounds Di (Hy N turned L) (N.length+2) (initF N)
theorem ixN_lt {N:List (Int×Int)} {p:Int×Int} (h:p∈N):ixN N p<N.length:=List.idxOf_lt_length_of_mem h
theorem ixN_get {N:List (Int×Int)} {p:Int×Int} (h:p∈N):N[ixN N p]?=some p:=by
 unfold ixN;rw [List.getElem?_eq_getElem (List.idxOf_lt_length_of_mem h),List.getElem_idxOf]
theorem eds_lt {D:Ap} (hD:D.Ok) (wd:List Int) (turned:Bool):∀ e∈Hy (An (Ae D wd)) turned (Ae D wd),e.a<(An (Ae D wd)).length/\e.z<(An (Ae D wd)).length:=by
 intro e he;obtain ⟨b,hb,rfl⟩:=List.mem_map.1 he;have h:=Kl hD wd b hb;have h1:=ixN_lt ((Ho hD wd _).2 h.1);have h2:=ixN_lt ((Ho hD wd _).2 h.2);unfold edF;cases turned
 ·exact ⟨h1,h2⟩
 ·exact ⟨h2,h1⟩
theorem eds_M {D:Ap} (hD:D.Ok) (wd:List Int) (hg:D.good=true) (hw:∀ i,0<=wd.getD i 0/\wd.getD i 0<=255) (turned:Bool):∀ e∈Hy (An (Ae D wd)) turned (Ae D wd),-1000000000<=e.m/\e.m<=1000000000:=by
 intro e he;obtain ⟨b,hb,rfl⟩:=List.mem_map.1 he;have h:=bnd_most hD hg hw b hb;unfold edF;cases turned
 ·exact h
 ·exact h
theorem gnd_lt {D:Ap} (hD:D.Ok) (wd:List Int):ixN (An (Ae D wd)) gnd<(An (Ae D wd)).length:=ixN_lt ((Ho hD wd _).2 (.inl rfl))
theorem nm_len {D:Ap} (hD:D.Ok) (wd:List Int):0<(An (Ae D wd)).length/\(An (Ae D wd)).length<=1200:=by
 have h1:=gnd_lt hD wd;have h2:=names_len (Ae D wd) [];have h3:=bounds_len hD wd;unfold An at *;simp only [List.length_nil] at h2;omega
theorem init_get (N:List (Int×Int)) (v:Nat) (hg:ixN N gnd<N.length) (hv:v<N.length):(initF N).d.getD v 0=if ixN N gnd=v then 0 else Di:=by
 show ((List.replicate N.length Di).set (ixN N gnd) 0).getD v 0=_
 rw [BF.getD_set _ _ _ _ (by simpa using hg)]
 split
 ·rfl
 ·rw [List.getD_eq_getElem?_getD,List.getElem?_replicate,if_pos hv];rfl
theorem Jq {D:Ap} (hD:D.Ok) (wd:List Int) (turned:Bool):BF.Inv (Hy (An (Ae D wd)) turned (Ae D wd)) (ixN (An (Ae D wd)) gnd) (An (Ae D wd)).length Di (initF (An (Ae D wd))):=by
 have hg:=gnd_lt hD wd;generalize An (Ae D wd)=N at *;refine ⟨by simp [initF],by simp [initF],fun v hv=>?_,fun v hv hf=>?_,fun v hv=>?_⟩
 ·rw [init_get N v hg hv];split<;>simp [Di]
 ·rw [init_get N v hg hv] at hf ⊢
  split
  ·rename_i h;subst h;exact ⟨0,.nil⟩
  ·rename_i h;rw [if_neg h] at hf;exact absurd rfl hf
 ·left;rw [init_get N v hg hv];refine ⟨by simp [initF,List.getD_eq_getElem?_getD,List.getElem?_replicate,hv],?_⟩
  split
  ·rename_i h;exact .inr ⟨h.symm,rfl⟩
  ·exact .inl rfl
theorem init_made {D:Ap} (hD:D.Ok) (wd:List Int) (turned:Bool):BF.Made (Hy (An (Ae D wd)) turned (Ae D wd)) (ixN (An (Ae D wd)) gnd) 0 (initF (An (Ae D wd))):=by
 intro v k W hk w;have hg:=gnd_lt hD wd;cases w with
 | nil=>rw [init_get _ _ hg hg,if_pos rfl];exact Int.le_refl _
 | snoc _ _=>omega
theorem init_src {D:Ap} (hD:D.Ok) (wd:List Int):(initF (An (Ae D wd))).d.getD (ixN (An (Ae D wd)) gnd) 0<=0:=by
 have hg:=gnd_lt hD wd;rw [init_get _ _ hg hg,if_pos rfl];exact Int.le_refl _
theorem rel_some {D:Ap} (hD:D.Ok) (wd:List Int) (hg:D.good=true) (hw:∀ i,0<=wd.getD i 0/\wd.getD i 0<=255) (turned:Bool) {h:Nat->Int} (hp:∀ e∈Hy (An (Ae D wd)) turned (Ae D wd),h e.z<=h e.a+e.m):∃ u,relF (An (Ae D wd)) turned (Ae D wd)=some u:=by
 have hn:=nm_len hD wd;unfold relF;refine BF.rounds_some (eds_lt hD wd turned) hp (gnd_lt hD wd) (M:=1000000000) (eds_M hD wd hg hw turned) (by omega) _ 0 _ hn.1 (Jq hD wd turned) (init_made hD wd turned) (by omega) ?_
 unfold Di;have:((0+((An (Ae D wd)).length+2):Nat):Int)*1000000000<=1202*1000000000:=Int.mul_le_mul_of_nonneg_right (by omega) (by omega)
 omega
theorem rel_reach {D:Ap} (hD:D.Ok) (wd:List Int) (hg:D.good=true) (hw:∀ i,0<=wd.getD i 0/\wd.getD i 0<=255) (turned:Bool) {u:BF.St} (hu:relF (An (Ae D wd)) turned (Ae D wd)=some u):∀ v,v<(An (Ae D wd)).length->u.d.getD v 0≠Di:=by
 obtain ⟨hi,hc⟩:=BF.rounds_inv (eds_lt hD wd turned) (Jq hD wd turned) hu;have hs:=BF.rounds_src (eds_lt hD wd turned) (Jq hD wd turned) (init_src hD wd) hu;have hM:=eds_M hD wd hg hw turned;have step:∀ b∈Ae D wd,∀ i:Nat,i<=20->∀ p q:Int×Int,((turned=false/\p=b.fr/\q=b.dst)\/(turned=true/\p=b.dst/\q=b.fr))->u.d.getD (ixN (An (Ae D wd)) p) 0<=i*1000000000->u.d.getD (ixN (An (Ae D wd)) q) 0<=(i+1:Nat)*1000000000:=by
  intro b hb i hi20 p q hpq hle;have hem:edF (An (Ae D wd)) turned b∈Hy (An (Ae D wd)) turned (Ae D wd):=List.mem_map.2 ⟨b,hb,rfl⟩;have hm:=hM _ hem;have hcl:=hc _ hem;have e1:(edF (An (Ae D wd)) turned b).a=ixN (An (Ae D wd)) p/\(edF (An (Ae D wd)) turned b).z=ixN (An (Ae D wd)) q:=by
   rcases hpq with ⟨rfl,rfl,rfl⟩ | ⟨rfl,rfl,rfl⟩<;>exact ⟨rfl,rfl⟩
  rw [e1.1,e1.2] at hcl;unfold Di at hcl;rcases hcl with hcl | hcl<;>omega
 have key:∀ t:Nat,t<=D.S.length->∀ c:Nat,c<D.st.length->u.d.getD (ixN (An (Ae D wd)) ((c:Int),(t:Int))) 0<=(t+1:Nat)*1000000000:=by
  intro t
  induction t with
  | zero =>
   intro _ c hcl;cases turned with
   | false=>exact step ⟨gnd,(c,0),(D.st.getD c (0,0)).2,1,c⟩ (List.mem_append_left _ (st_has hcl _ (by simp [Ey]))) 0 (by omega) gnd (c,0) (.inl ⟨rfl,rfl,rfl⟩) (by simpa using hs)
   | true=>exact step ⟨(c,0),gnd,-(D.st.getD c (0,0)).1,1,c⟩ (List.mem_append_left _ (st_has hcl _ (by simp [Ey]))) 0 (by omega) gnd (c,0) (.inr ⟨rfl,rfl,rfl⟩) (by simpa using hs)
  | succ t ih =>
   intro ht c hcl;have h1:=ih (by omega) c hcl
   have h10:=hD.s10;have e:(((t+1:Nat):Int))=(t:Int)+1:=by omega
   rw [e];cases turned with
   | false=>exact step ⟨(c,t),(c,t+1),_,2,t⟩ (List.mem_append_left _ (sp_has (wd:=wd) (i:=t) (c:=c) (by omega) hcl _ (by simp only [Ey,List.mem_cons];left;rfl))) (t+1) (by omega) (c,t) (c,(t:Int)+1) (.inl ⟨rfl,rfl,rfl⟩) h1
   | true=>exact step ⟨(c,t+1),(c,t),_,2,t⟩ (List.mem_append_left _ (sp_has (wd:=wd) (i:=t) (c:=c) (by omega) hcl _ (by simp only [Ey,List.mem_cons];right;left;rfl))) (t+1) (by omega) (c,t) (c,(t:Int)+1) (.inr ⟨rfl,rfl,rfl⟩) h1
 intro v hv;have hmem:(An (Ae D wd))[v]∈An (Ae D wd):=List.getElem_mem hv;have hnd:(An (Ae D wd)).Nodup:=names_nodup _ _ List.nodup_nil;have hix:ixN (An (Ae D wd)) (An (Ae D wd))[v]=v:=hnd.idxOf_getElem v hv;rw [<- hix];generalize (An (Ae D wd))[v]=p at *;rcases (Ho hD wd p).1 hmem with rfl | ⟨h1,h2,h3,h4⟩
 ·unfold Di;omega
 ·obtain ⟨p1,p2⟩:=p;simp only at h1 h2 h3 h4;obtain ⟨c,rfl⟩:∃ c:Nat,p1=c:=⟨p1.toNat,by omega⟩
  obtain ⟨t,rfl⟩:∃ t:Nat,p2=t:=⟨p2.toNat,by omega⟩
  have:=key t (by omega) c (by omega)
  have h10:=hD.s10;unfold Di;omega
theorem rel_down {D:Ap} (hD:D.Ok) (wd:List Int) (hg:D.good=true) (hw:∀ i,0<=wd.getD i 0/\wd.getD i 0<=255) {u:BF.St} (hu:relF (An (Ae D wd)) false (Ae D wd)=some u):∃ v,relF (An (Ae D wd)) true (Ae D wd)=some v:=by
 obtain ⟨_,hc⟩:=BF.rounds_inv (eds_lt hD wd false) (Jq hD wd false) hu;have hr:=rel_reach hD wd hg hw false hu;refine rel_some hD wd hg hw true (h:=fun x=>-(u.d.getD x 0)) fun e he=>?_
 obtain ⟨b,hb,rfl⟩:=List.mem_map.1 he;have hem:edF (An (Ae D wd)) false b∈Hy (An (Ae D wd)) false (Ae D wd):=List.mem_map.2 ⟨b,hb,rfl⟩;have h1:=(hc _ hem).resolve_left (hr _ (eds_lt hD wd false _ hem).1);simp only [edF] at h1 ⊢;simp only [if_true,Bool.false_eq_true,if_false] at h1 ⊢;omega
/-! ### worlds and heights -/
def Dj:List (Int×Int)->List (List Int)
 | []=>[[]]
 | h :: l=>(List.range (h.2 - h.1+1).toNat).flatMap fun k:Nat=>(Dj l).map fun w=>(h.1+(k:Int)) :: w
theorem worldsL_ok:∀ {hp:List (Int×Int)},(∀ x∈hp,1<=x.1/\x.1<=x.2/\x.2<=255)->∀ w∈Dj hp,w.length=hp.length/\∀ i,0<=w.getD i 0/\w.getD i 0<=255
 | [],_,w,h=>by
  simp only [Dj,List.mem_singleton] at h;subst h;exact ⟨rfl,fun i=>by simp⟩
 | x :: l,hp,w,h=>by
  obtain ⟨k,hk,h⟩:=List.mem_flatMap.1 h;obtain ⟨v,hv,rfl⟩:=List.mem_map.1 h;have hx:=hp x (by simp)
  have ih:=worldsL_ok (hp:=l) (fun y hy=>hp y (by simp [hy])) v hv
  have hk:=List.mem_range.1 hk;refine ⟨by simp [ih.1],fun i=>?_⟩
  cases i with
  | zero=>simp;omega
  | succ i=>simpa using ih.2 i
def Kh (D:Ap) (wd:List Int):Bool:=(relF (An (Ae D wd)) false (Ae D wd)).isSome
def Ec (D:Ap) (wd:List Int) (p:Int×Int):Int×Int :=
 (-(((relF (An (Ae D wd)) true (Ae D wd)).getD ⟨[],[],false⟩).d.getD (ixN (An (Ae D wd)) p) 0),((relF (An (Ae D wd)) false (Ae D wd)).getD ⟨[],[],false⟩).d.getD (ixN (An (Ae D wd)) p) 0)
def Du (a b:Int×Int):Int×Int:=(min a.1 b.1,max a.2 b.2)
def overF (l:List (Int×Int)):Int×Int:=l.tail.foldl Du (l.headD (0,0))
def Bb (D:Ap):List (List Int):=(Dj D.hp).filter (Kh D)
def Cr (D:Ap) (t:Int):List (Int×Int):=(List.range D.st.length).map fun c:Nat=>overF ((Bb D).map fun w=>Ec D w ((c:Int),t))
theorem foldl_hull (l:List (Int×Int)):∀ a:Int×Int,((l.foldl Du a).1<=a.1/\∀ x∈l,(l.foldl Du a).1<=x.1)/\(a.2<=(l.foldl Du a).2/\∀ x∈l,x.2<=(l.foldl Du a).2)/\
  ((l.foldl Du a).1=a.1\/∃ x∈l,(l.foldl Du a).1=x.1)/\((l.foldl Du a).2=a.2\/∃ x∈l,(l.foldl Du a).2=x.2):=by
 induction l with
 | nil=>intro a;exact ⟨⟨Int.le_refl _,fun x h=>by cases h⟩,⟨Int.le_refl _,fun x h=>by cases h⟩,.inl rfl,.inl rfl⟩
 | cons y l ih =>
  intro a;obtain ⟨⟨h1,h2⟩,⟨h3,h4⟩,h5,h6⟩:=ih (Du a y);rw [List.foldl_cons];generalize l.foldl Du (Du a y)=r at *;have k1:(Du a y).1<=a.1/\(Du a y).1<=y.1/\((Du a y).1=a.1\/(Du a y).1=y.1):=by clear h1 h2 h3 h4 h5 h6;simp only [Du];omega
  have k2:a.2<=(Du a y).2/\y.2<=(Du a y).2/\((Du a y).2=a.2\/(Du a y).2=y.2):=by clear h1 h2 h3 h4 h5 h6 k1;simp only [Du];omega
  refine ⟨⟨Int.le_trans h1 k1.1,fun x hx=>?_⟩,⟨Int.le_trans k2.1 h3,fun x hx=>?_⟩,?_,?_⟩
  ·rcases List.mem_cons.1 hx with rfl | hx
   ·exact Int.le_trans h1 k1.2.1
   ·exact h2 x hx
  ·rcases List.mem_cons.1 hx with rfl | hx
   ·exact Int.le_trans k2.2.1 h3
   ·exact h4 x hx
  ·rcases h5 with h5 | ⟨x,hx,h5⟩
   ·rcases k1.2.2 with h | h
    ·exact .inl (h5.trans h)
    ·exact .inr ⟨y,by simp,h5.trans h⟩
   ·exact .inr ⟨x,by simp [hx],h5⟩
  ·rcases h6 with h6 | ⟨x,hx,h6⟩
   ·rcases k2.2.2 with h | h
    ·exact .inl (h6.trans h)
    ·exact .inr ⟨y,by simp,h6.trans h⟩
   ·exact .inr ⟨x,by simp [hx],h6⟩
theorem over_le {l:List (Int×Int)}:∀ x∈l,(overF l).1<=x.1/\x.2<=(overF l).2:=by
 intro x hx;cases l with
 | nil=>cases hx
 | cons a l =>
  have h:=foldl_hull l a
  show (l.foldl Du a).1<=x.1/\x.2<=(l.foldl Du a).2
  rcases List.mem_cons.1 hx with rfl | hx
  ·exact ⟨h.1.1,h.2.1.1⟩
  ·exact ⟨h.1.2 x hx,h.2.1.2 x hx⟩
theorem over_mem {l:List (Int×Int)} (h0:l≠[]):(∃ x∈l,(overF l).1=x.1)/\∃ x∈l,(overF l).2=x.2:=by
 cases l with
 | nil=>exact absurd rfl h0
 | cons a l =>
  have h:=foldl_hull l a
  show (∃ x∈a :: l,(l.foldl Du a).1=x.1)/\∃ x∈a :: l,(l.foldl Du a).2=x.2
  constructor
  ·rcases h.2.2.1 with g | ⟨x,hx,g⟩
   ·exact ⟨a,by simp,g⟩
   ·exact ⟨x,by simp [hx],g⟩
  ·rcases h.2.2.2 with g | ⟨x,hx,g⟩
   ·exact ⟨a,by simp,g⟩
   ·exact ⟨x,by simp [hx],g⟩
theorem base_same {D E:Ap} (hst:E.st=D.st) (hS:E.S.map (fun s=>(s.kind,s.heap,s.times,s.dlo,s.dhi))=D.S.map (fun s=>(s.kind,s.heap,s.times,s.dlo,s.dhi))) (wd:List Int):baseF E wd=baseF D wd:=by
 have hl:E.S.length=D.S.length:=by have:=congrArg List.length hS;simpa using this
 unfold baseF;rw [hst,hl]
 congr 1
 unfold bndSp;have:∀ i,i<D.S.length->Km (E.S.getD i ⟨0,0,[],none,0,0,0⟩) i wd D.st.length=Km (D.S.getD i ⟨0,0,[],none,0,0,0⟩) i wd D.st.length:=fun i hi=>by
  rw [Aj _ _ hi,Aj _ _ (by omega)]
  have h1:(E.S.map (fun s=>(s.kind,s.heap,s.times,s.dlo,s.dhi)))[i]?=(D.S.map (fun s=>(s.kind,s.heap,s.times,s.dlo,s.dhi)))[i]?:=by rw [hS]
  rw [List.getElem?_map,List.getElem?_map,List.getElem?_eq_getElem hi,List.getElem?_eq_getElem (by omega)] at h1
  simp only [Option.map_some,Option.some.injEq,Prod.mk.injEq] at h1;obtain ⟨h1,h2,h3,h4,h5⟩:=h1;unfold Km Ef;rw [h1,h2,h3,h4,h5]
 rw [List.flatMap_def,List.flatMap_def]
 congr 1
 exact List.map_congr_left fun i hi=>this i (List.mem_range.1 hi)
theorem names_less {D E:Ap} (hD:D.Ok) (hE:E.Ok) (hst:E.st=D.st) (hS:E.S.map (fun s=>(s.kind,s.heap,s.times,s.dlo,s.dhi))=D.S.map (fun s=>(s.kind,s.heap,s.times,s.dlo,s.dhi))) (wd:List Int):An (Ae E wd)=An (Ae D wd):=by
 rw [names_eq hD,names_eq hE,base_same hst hS]
theorem eds_less {D E:Ap} (hD:D.Ok) (hE:E.Ok) (hst:E.st=D.st) (hS:E.S.map (fun s=>(s.kind,s.heap,s.times,s.dlo,s.dhi))=D.S.map (fun s=>(s.kind,s.heap,s.times,s.dlo,s.dhi))) (hR:∀ r∈E.R,r∈D.R) (wd:List Int) (turned:Bool):∀ e∈Hy (An (Ae D wd)) turned (Ae E wd),e∈Hy (An (Ae D wd)) turned (Ae D wd):=by
 intro e he;obtain ⟨b,hb,rfl⟩:=List.mem_map.1 he;rcases List.mem_append.1 hb with hb | hb
 ·rw [base_same hst hS] at hb;exact List.mem_map.2 ⟨b,List.mem_append_left _ hb,rfl⟩
 ·obtain ⟨r,hr,h⟩:=rd_mem hb;obtain ⟨⟨b1,h1,e1,e2,e3⟩,⟨b2,h2,f1,f2,f3⟩⟩:=mem_rd (hR r hr);rcases h with ⟨g1,g2,g3⟩ | ⟨g1,g2,g3⟩
  ·refine List.mem_map.2 ⟨b1,List.mem_append_right _ h1,?_⟩;unfold edF;rw [e1,e2,e3,g1,g2,g3]
  ·refine List.mem_map.2 ⟨b2,List.mem_append_right _ h2,?_⟩;unfold edF;rw [f1,f2,f3,g1,g2,g3]
theorem good_less {D E:Ap} (hD:D.Ok) (hE:E.Ok) (hst:E.st=D.st) (hS:E.S.map (fun s=>(s.kind,s.heap,s.times,s.dlo,s.dhi))=D.S.map (fun s=>(s.kind,s.heap,s.times,s.dlo,s.dhi))) (hR:∀ r∈E.R,r∈D.R):E.good=D.good:=by
 have h:∀ S:List Bh,S.all Ku=(S.map (fun s=>(s.kind,s.heap,s.times,s.dlo,s.dhi))).all fun q=>q.1 == 2 || q.2.2.1.all fun t=>inB t 0 1000000:=fun S=>by
  rw [List.all_map];rfl
 unfold Ap.good;rw [h,h,hS]
theorem lives_less {D E:Ap} (hD:D.Ok) (hE:E.Ok) (hst:E.st=D.st) (hS:E.S.map (fun s=>(s.kind,s.heap,s.times,s.dlo,s.dhi))=D.S.map (fun s=>(s.kind,s.heap,s.times,s.dlo,s.dhi))) (hR:∀ r∈E.R,r∈D.R) (hg:D.good=true) {wd:List Int} (hw:∀ i,0<=wd.getD i 0/\wd.getD i 0<=255) {turned:Bool} {u:BF.St} (hu:relF (An (Ae D wd)) turned (Ae D wd)=some u) :
  ∃ v,relF (An (Ae E wd)) turned (Ae E wd)=some v/\∀ x,x<(An (Ae D wd)).length->u.d.getD x 0<=v.d.getD x 0:=by
 have hgE:E.good=true:=by rw [good_less hD hE hst hS hR];exact hg
 have hn:=names_less hD hE hst hS wd;have hsub:=eds_less hD hE hst hS hR wd turned;obtain ⟨_,hc⟩:=BF.rounds_inv (eds_lt hD wd turned) (Jq hD wd turned) hu;have hr:=rel_reach hD wd hg hw turned hu;have hlt:=eds_lt hE wd turned;rw [hn] at hlt;obtain ⟨v,hv⟩:=rel_some hE wd hgE hw turned (h:=fun x=>u.d.getD x 0) (fun e he=>by
  rw [hn] at he;exact (hc _ (hsub e he)).resolve_left (hr _ (hlt e he).1))
 refine ⟨v,hv,fun x hx=>?_⟩
 have hi:=Jq hE wd turned;rw [hn] at hi hv;exact BF.rounds_mono (eds_lt hD wd turned) hlt hsub (Jq hD wd turned) hi (init_src hD wd) hu hv hr x hx
theorem heights_less {D E:Ap} (hD:D.Ok) (hE:E.Ok) (hst:E.st=D.st) (hhp:E.hp=D.hp) (hS:E.S.map (fun s=>(s.kind,s.heap,s.times,s.dlo,s.dhi))=D.S.map (fun s=>(s.kind,s.heap,s.times,s.dlo,s.dhi))) (hR:∀ r∈E.R,r∈D.R) (hg:D.good=true) (hl:Bb D≠[]):Bb E≠[]/\∀ c t:Int,Gl D (c,t)->
  (overF ((Bb E).map fun w=>Ec E w (c,t))).1<=(overF ((Bb D).map fun w=>Ec D w (c,t))).1/\(overF ((Bb D).map fun w=>Ec D w (c,t))).2<=(overF ((Bb E).map fun w=>Ec E w (c,t))).2:=by
 have hsub:∀ w∈Bb D,w∈Bb E/\∀ p,Gl D p->(Ec E w p).1<=(Ec D w p).1/\(Ec D w p).2<=(Ec E w p).2:=by
  intro w hw;obtain ⟨h1,h2⟩:=List.mem_filter.1 hw;have hok:=(worldsL_ok hD.hp w h1).2;obtain ⟨u,hu⟩:=Option.isSome_iff_exists.1 h2;obtain ⟨d,hd⟩:=rel_down hD w hg hok hu;obtain ⟨u',hu',hle⟩:=lives_less hD hE hst hS hR hg hok hu;obtain ⟨d',hd',hle'⟩:=lives_less hD hE hst hS hR hg hok hd;refine ⟨List.mem_filter.2 ⟨by rw [hhp];exact h1,by unfold Kh;rw [hu'];rfl⟩,fun p hp=>?_⟩
  have hx:=ixN_lt ((Ho hD w p).2 hp);have a:=hle _ hx;have b:=hle' _ hx;rw [names_less hD hE hst hS] at hu' hd';unfold Ec;rw [names_less hD hE hst hS,hu,hd,hu',hd'];simp only [Option.getD_some];omega
 refine ⟨fun h=>hl (List.eq_nil_iff_forall_not_mem.2 fun w hw=>by have:=(hsub w hw).1;rw [h] at this;cases this),fun c t hp=>?_⟩
 obtain ⟨⟨x,hx,e1⟩,⟨y,hy,e2⟩⟩:=over_mem (l:=(Bb D).map fun w=>Ec D w (c,t)) (by simpa using hl)
 rw [e1,e2];obtain ⟨w1,h1,rfl⟩:=List.mem_map.1 hx;obtain ⟨w2,h2,rfl⟩:=List.mem_map.1 hy;have a1:=hsub w1 h1;have a2:=hsub w2 h2;have b1:=over_le (l:=(Bb E).map fun w=>Ec E w (c,t)) _ (List.mem_map.2 ⟨w1,a1.1,rfl⟩)
 have b2:=over_le (l:=(Bb E).map fun w=>Ec E w (c,t)) _ (List.mem_map.2 ⟨w2,a2.1,rfl⟩)
 have c1:=a1.2 _ hp;have c2:=a2.2 _ hp;omega
end
section
theorem gstep1_any (m:Int) (q:Nat) (n:Int) (w:World) (h1:Bk w q 3 #[.int .i64 m]) :
  Calls Tryz.prog 216 #[.int .i64 n,.pointer (some ⟨q,0,none⟩)] w fun e w'=>e=.returned (.bool (!inB n 0 m))/\Below w.heap.size w w':=by
 have x1:=h1.cell 0;have l1:=h1.lt;simp at x1;clear h1;have hB:=Below.refl w.heap.size w;go_enter Tryz.func216,Tryz.ntmps216;go_wp2_with (go_at_call 96;refine (Jg _ _ _ _).mono ?_;rintro e w1 ⟨rfl,rfl⟩);go_ret;exact ⟨rfl,hB⟩
theorem gsti_ix (q:Nat) (A:Option Addr) (c n:Nat) (el:Nat->List Value) (bad:Nat->Bool) (w:World) (hrow:Hw w A 1 n el) (hn:n<=9223372036854775807)
  (hcall:∀ X,Below w.heap.size w X->∀ k,k<n->Calls Tryz.prog 216 (#[(el k).getD 0 undef] ++ #[.pointer (some ⟨q,0,none⟩)]) X fun e w'=>e=.returned (.bool (bad k))/\Below X.heap.size X w') :
  Calls Tryz.prog 156 #[.slice A n c,.func (.func 216) #[] #[.pointer (some ⟨q,0,none⟩)]] w fun e w'=>e=.returned (.int .i64 (Cs bad n))/\Below w.heap.size w w':=by
 have HR:=Hd hrow;have HC:=Hd hcall;clear hrow hcall;have hB0:=Below.refl w.heap.size w;go_enter Tryz.func156,Tryz.ntmps156;go_wp2_with fail;go_loopw [8] (fun i wr=>∃ k:Nat,k<=n/\i=.int .i64 k/\Below w.heap.size w wr/\Hid (∀ j,j<k->bad j=false)) (fun i _=>n - (intOf i).toNat)
 case atStart=>exact ⟨0,Nat.zero_le _,rfl,hB0,fun j h=>absurd h (by omega)⟩
 case round =>
  obtain ⟨k,hk,rfl,hBr,hall⟩:=hrel;clear hB0
  by_cases hlt:k<n
  ·have hkI:(k:Int)<n:=by omega
   obtain ⟨b5,o5,hA,hb5,hc5⟩:=(HR.out.below hBr).2 (by omega)
   have hlen:=HR.out.1 k hlt;have HE:=Hd (HC.out wr hBr k hlt);obtain ⟨u0,hel⟩:=list1_of hlen;have c0:wr.cell? ⟨b5,o5+k,none⟩=some u0:=by have:=hc5 k hlt 0 u0 (by rw [hel];rfl);simpa using this
   rw [hel] at HE;change Hid (Calls Tryz.prog 216 #[u0,.pointer (some ⟨q,0,none⟩)] wr _) at HE;have HF:Hid (bad k=true->Cs bad n=k):=fun h=>Es hlt hall.out h
   have HN:Hid (bad k=false->∀ j,j<k+1->bad j=false):=fun h=>Fq hall.out h
   rw [hA];clear hA hc5 hlen hel hall;cases hs:bad k
   ·rw [hs] at HE;have HN2:=Hd (HN.out hs);clear HN HF hs;go_wp2_with (go_at_call 216;refine HE.out.mono ?_;rintro e w1 ⟨rfl,hb1⟩);have hB1:=hBr.trans (hb1.mono hBr.size);go_roundw
    case rel=>exact ⟨k+1,by omega,by go_num,hB1,HN2⟩
    case measure=>simp [intOf];omega
   ·rw [hs] at HE;have HF2:=Hd (HF.out hs);clear HN HF hs;go_wp2_with (go_at_call 216;refine HE.out.mono ?_;rintro e w1 ⟨rfl,hb1⟩);go_ret;exact ⟨Cb HF2.out.symm,hBr.trans (hb1.mono hBr.size)⟩
  ·obtain rfl:k=n:=by omega
   have HF:=Hd (Ea hall.out);clear hall;go_wp2;go_ret;exact ⟨Cb HF.out.symm,hBr⟩
theorem gsti_has (q:Nat) (A:Option Addr) (c n:Nat) (el:Nat->List Value) (bad:Nat->Bool) (w:World) (hrow:Hw w A 1 n el) (hn:n<=9223372036854775807)
  (hcall:∀ X,Below w.heap.size w X->∀ k,k<n->Calls Tryz.prog 216 (#[(el k).getD 0 undef] ++ #[.pointer (some ⟨q,0,none⟩)]) X fun e w'=>e=.returned (.bool (bad k))/\Below X.heap.size X w') :
  Calls Tryz.prog 108 #[.slice A n c,.func (.func 216) #[] #[.pointer (some ⟨q,0,none⟩)]] w fun e w'=>e=.returned (.bool (Fd bad n))/\Below w.heap.size w w':=by
 have HI:=Hd (gsti_ix q A c n el bad w hrow hn hcall);have HG:=Hd (Et bad n);clear hrow hcall;go_enter Tryz.func108,Tryz.ntmps108;go_wp2_with (go_at_call 156;refine HI.out.mono ?_;rintro e w1 ⟨rfl,hb1⟩);go_ret;exact ⟨Af HG.out,hb1⟩
theorem anyB_all (l:List Int) (m:Int):(!Fd (fun k=>!inB (l.getD k 0) 0 m) l.length)=l.all fun t=>inB t 0 m:=by
 cases h:l.all fun t=>inB t 0 m with
 | true =>
  rw [List.all_eq_true] at h;have:Fd (fun k=>!inB (l.getD k 0) 0 m) l.length=false:=Fu.2 fun k hk=>by
   rw [Aj _ _ hk,h _ (List.getElem_mem hk)];rfl
  rw [this];rfl
 | false =>
  cases h2:Fd (fun k=>!inB (l.getD k 0) 0 m) l.length with
  | true=>rfl
  | false =>
   rw [Fu] at h2;have:(l.all fun t=>inB t 0 m)=true:=by
    rw [List.all_eq_true];intro x hx;obtain ⟨k,hk,rfl⟩:=List.getElem_of_mem hx;have:=h2 k hk;rw [Aj _ _ hk] at this
    simpa using this
   rw [this] at h;cases h
theorem goodStep_any (D:Ap) (s:Bh) (w:World) (hn:D.st.length<=24/\D.hp.length<=8) (hs:StepOk D.st.length D.hp.length s) (ht:Ad w s.tA (Ac s.times)) :
  Calls Tryz.prog 186 #[.agg D.arr,.agg s.cells.toArray] w fun e w'=>e=.returned (.bool (Ku s))/\Below w.heap.size w w':=by
 obtain ⟨kind,heap,times,tA,tc,dlo,dhi⟩:=s;obtain ⟨hlen,hkind⟩:=hs;simp only at hlen hkind ht;have hHC:=fun (m:Int) (V:World) (hV:Below w.heap.size w V) (q:Nat) (hq:Bk V q 3 #[.int .i64 m]) =>
  gsti_has q tA tc times.length (fun k=>[.int .i64 (times.getD k 0)]) (fun k=>!inB (times.getD k 0) 0 m) V (Hw.of_ints (ht.below hV)) (by omega) (fun X hX k hk=>gstep1_any m q (times.getD k 0) X (hq.keep hX))
 unfold Bh.cells Ap.arr;simp only;generalize D.st.length=ns at *;generalize D.hp.length=nh at *;generalize hN:times.length=N at *;subst hlen;obtain ⟨W,hW⟩:∃ W,(w.alloc (.cells #[.slice D.A1 N D.c1,.slice D.A2 nh D.c2,.slice D.A3 D.S.length D.c3,.slice D.A4 D.R.length D.c4] 55)).alloc (.cells #[.int .i64 kind,.int .i64 heap,.slice tA N tc,.int .i64 dlo,.int .i64 dhi] 62)=W:=⟨_,rfl⟩;have hbW:Below w.heap.size w W:=by rw [<- hW];exact Ba.alloc (by simp) _
 have X:Bk W w.heap.size 55 #[.slice D.A1 N D.c1,.slice D.A2 nh D.c2,.slice D.A3 D.S.length D.c3,.slice D.A4 D.R.length D.c4]:=by rw [<- hW];exact (Aa rfl).alloc _
 have Y:Bk W (w.heap.size+1) 62 #[.int .i64 kind,.int .i64 heap,.slice tA N tc,.int .i64 dlo,.int .i64 dhi]:=by rw [<- hW];exact Aa (by simp)
 generalize D.S.length=n3 at *;generalize D.R.length=n4 at *;have HW:=Hd hW;have HXY:=Hd (Ai X (Ai Y hbW));have HHC:=Hd hHC;have HALL:=Hd (anyB_all times);have HN:=Hd hN;clear hW X Y hbW ht hHC hN;rcases hkind with ⟨rfl,hh,⟨rfl,rfl⟩,htm⟩ | ⟨rfl,rfl,hd,htm⟩
 ·
  have hw1:inB heap 0 ((nh:Int) - 1)=true:=by simp [inB];omega
  have HC:=Hd (HHC.out 1000000 (W.alloc (.cells #[.int .i64 1000000] 3)) (HXY.out.2.2.alloc HXY.out.2.2.size _) W.heap.size (Aa rfl));have HB2:Hid (Below w.heap.size w (W.alloc (.cells #[.int .i64 1000000] 3))):=HXY.out.2.2.alloc HXY.out.2.2.size _;have HQ:Hid ((!Fd (fun k=>!inB (times.getD k 0) 0 1000000) N)=Ku ⟨1,heap,times,tA,tc,0,0⟩):=by
   have:=HALL.out 1000000;rw [HN.out] at this
   show _=_
   rw [this];simp [Ku]
  have y0:=HXY.out.2.1.cell 0;have y1:=HXY.out.2.1.cell 1;have y2:=HXY.out.2.1.cell 2;have y3:=HXY.out.2.1.cell 3;have y4:=HXY.out.2.1.cell 4;have yl:=HXY.out.2.1.lt;have x0:=HXY.out.1.cell 0;have x1:=HXY.out.1.cell 1;have xl:=HXY.out.1.lt;simp at y0 y1 y2 y3 y4 x0 x1;have hnh:(nh:Int) - 1<9223372036854775808:=by omega
  generalize Fd (fun k=>!inB (times.getD k 0) 0 1000000) N=v at *
  clear HXY HHC HALL HN htm;go_enter Tryz.func186,Tryz.ntmps186;go_upto_region 1 with fail
  rw [HW.out];clear HW;go_wp2_with (first
   | (go_at_call 96;refine (Jg _ _ _ _).mono ?_;rintro e w1 ⟨rfl,rfl⟩;try rw [hw1])
   | (go_at_call 108;refine HC.out.mono ?_;rintro e w1 ⟨rfl,hb1⟩))
  go_ret;exact ⟨Af HQ.out,HB2.out.trans (hb1.mono HB2.out.size)⟩
 ·
  have hw1:Cf dlo dhi 0 1000000000=true:=by simp [Cf];omega
  have HC:=Hd (fun (V:World) (hV:Below w.heap.size w V) (hq:Bk V W.heap.size 3 #[.int .i64 100000])=>HHC.out 100000 V hV W.heap.size hq)
  have HB2:Hid (Below w.heap.size w (W.alloc (.cells #[.int .i64 100000] 3))):=HXY.out.2.2.alloc HXY.out.2.2.size _;have HK:Hid (Bk (W.alloc (.cells #[.int .i64 100000] 3)) W.heap.size 3 #[.int .i64 100000]):=Hd (Aa rfl);have HQ:Hid ((!Fd (fun k=>!inB (times.getD k 0) 0 100000) N)=Ku ⟨2,0,times,tA,tc,dlo,dhi⟩):=by
   have:=HALL.out 100000;rw [HN.out] at this
   show _=_
   rw [this];have h2:(times.all fun t=>inB t 0 100000)=true:=by
    rw [List.all_eq_true];intro t h;have:=htm t h;simp [inB];omega
   rw [h2];simp [Ku]
  have y0:=HXY.out.2.1.cell 0;have y1:=HXY.out.2.1.cell 1;have y2:=HXY.out.2.1.cell 2;have y3:=HXY.out.2.1.cell 3;have y4:=HXY.out.2.1.cell 4;have yl:=HXY.out.2.1.lt;have x0:=HXY.out.1.cell 0;have x1:=HXY.out.1.cell 1;have xl:=HXY.out.1.lt;simp at y0 y1 y2 y3 y4 x0 x1;generalize Fd (fun k=>!inB (times.getD k 0) 0 100000) N=v at *
  clear HHC HALL HN htm;go_enter Tryz.func186,Tryz.ntmps186;go_upto_region 1 with fail
  rw [HW.out];clear HW;go_wp2_with (first
   | (go_at_call 214;refine (wspan_any _ _ _ _ _).mono ?_;rintro e w1 ⟨rfl,hb1⟩;try rw [hw1];have X1:=(HXY.out.1.alloc (.cells #[.int .i64 100000] 3)).keep hb1;have Y1:=(HXY.out.2.1.alloc (.cells #[.int .i64 100000] 3)).keep hb1;have x0':=X1.cell 0;have y2':=Y1.cell 2;have xl':=X1.lt;have yl':=Y1.lt;simp at x0' y2';clear X1 Y1)
   | (go_at_call 108;(refine (HC.out _ (HB2.out.trans (hb1.mono HB2.out.size)) (HK.out.keep hb1)).mono ?_);rintro e w2 ⟨rfl,hb2⟩))
  go_ret;have hb3:=HB2.out.trans (hb1.mono HB2.out.size);exact ⟨Af HQ.out,hb3.trans (hb2.mono hb3.size)⟩
theorem goodReading_any (D:Ap) (r:Da) (w:World) (hn:D.st.length<=24/\D.S.length<=10) (hr:ReadOk D.st.length D.S.length r) :
  Calls Tryz.prog 189 #[.agg D.arr,.agg r.cells.toArray] w fun e w'=>e=.returned (.bool true)/\Below w.heap.size w w':=by
 obtain ⟨sl,a,b,lo,hi⟩:=r;obtain ⟨h1,h2,h3,h4,h5⟩:=hr;simp only at h1 h2 h3 h4 h5;unfold Da.cells Ap.arr;simp only;generalize D.st.length=ns at *;generalize D.S.length=n3 at *;obtain ⟨W,hW⟩:∃ W,(w.alloc (.cells #[.slice D.A1 ns D.c1,.slice D.A2 D.hp.length D.c2,.slice D.A3 n3 D.c3,.slice D.A4 D.R.length D.c4] 55)).alloc (.cells #[.int .i64 sl,.int .i64 a,.int .i64 b,.int .i64 lo,.int .i64 hi] 186)=W:=⟨_,rfl⟩;have hbW:Below w.heap.size w W:=by rw [<- hW];exact Ba.alloc (by simp) _
 have X:Bk W w.heap.size 55 #[.slice D.A1 ns D.c1,.slice D.A2 D.hp.length D.c2,.slice D.A3 n3 D.c3,.slice D.A4 D.R.length D.c4]:=by rw [<- hW];exact (Aa rfl).alloc _
 have Y:Bk W (w.heap.size+1) 186 #[.int .i64 sl,.int .i64 a,.int .i64 b,.int .i64 lo,.int .i64 hi]:=by rw [<- hW];exact Aa (by simp)
 have HW:=Hd hW;have y0:=Y.cell 0;have y1:=Y.cell 1;have y2:=Y.cell 2;have y3:=Y.cell 3;have y4:=Y.cell 4;have x0:=X.cell 0;have x2:=X.cell 2;simp at y0 y1 y2 y3 y4 x0 x2;have w1:inB sl 0 n3=true:=by simp [inB];omega
 have w2:inB a 0 ((ns:Int) - 1)=true:=by simp [inB];omega
 have w3:inB b (-1) ((ns:Int) - 1)=true:=by simp [inB];omega
 have w5:Cf lo hi (-1099511627776) 1099511627776=true:=by simp [Cf];omega
 clear hW X Y h1 h2 h3 h5;go_enter Tryz.func189,Tryz.ntmps189;go_upto_region 1 with fail
 rw [HW.out];clear HW;go_wp2_with (first
  | (go_at_call 96;refine (Jg _ _ _ _).mono ?_;rintro e w1' ⟨rfl,rfl⟩;first | rw [w1] | rw [w2] | rw [w3])
  | (go_at_call 214;refine (wspan_any _ _ _ _ _).mono ?_;rintro e w1' ⟨rfl,hb1⟩;rw [w5]))
 go_ret;exact ⟨Af (by simpa using h4),hbW.trans (hb1.mono hbW.size)⟩
end
section
theorem chk1_any (D:Ap) (q:Nat) (s:Bh) (w:World) (hq:Bk w q 55 D.arr) (hn:D.st.length<=24/\D.hp.length<=8) (hs:StepOk D.st.length D.hp.length s) (ht:Ad w s.tA (Ac s.times)) :
  Calls Tryz.prog 185 #[.agg s.cells.toArray,.pointer (some ⟨q,0,none⟩)] w fun e w'=>e=.returned (.bool (!Ku s))/\Below w.heap.size w w':=by
 obtain ⟨W,hW⟩:∃ W,w.alloc (.cells s.cells.toArray 62)=W:=⟨_,rfl⟩;have hbW:Below w.heap.size w W:=by rw [<- hW];exact Ba
 have X:Bk W w.heap.size 62 s.cells.toArray:=by rw [<- hW];exact Aa rfl
 have HG:=Hd (goodStep_any D s W hn hs (ht.below hbW));have Y:=hq.keep hbW;unfold Ap.arr Bh.cells at *;have x0:=X.cell 0;have x1:=X.cell 1;have x2:=X.cell 2;have x3:=X.cell 3;have x4:=X.cell 4;have y0:=Y.cell 0;have y1:=Y.cell 1;have y2:=Y.cell 2;have y3:=Y.cell 3;have yl:=Y.lt;simp at x0 x1 x2 x3 x4 y0 y1 y2 y3;have HW:=Hd hW;clear hW X Y hq ht hs;go_enter Tryz.func185,Tryz.ntmps185;go_upto_region 1 with fail
 rw [HW.out];clear HW;go_wp2_with (go_at_call 186;refine HG.out.mono ?_;rintro e w1 ⟨rfl,hb1⟩);go_ret;exact ⟨rfl,hbW.trans (hb1.mono hbW.size)⟩
theorem chk2_any (D:Ap) (q:Nat) (r:Da) (w:World) (hq:Bk w q 55 D.arr) (hn:D.st.length<=24/\D.S.length<=10) (hs:ReadOk D.st.length D.S.length r) :
  Calls Tryz.prog 188 #[.agg r.cells.toArray,.pointer (some ⟨q,0,none⟩)] w fun e w'=>e=.returned (.bool false)/\Below w.heap.size w w':=by
 obtain ⟨W,hW⟩:∃ W,w.alloc (.cells r.cells.toArray 186)=W:=⟨_,rfl⟩;have hbW:Below w.heap.size w W:=by rw [<- hW];exact Ba
 have X:Bk W w.heap.size 186 r.cells.toArray:=by rw [<- hW];exact Aa rfl
 have HG:=Hd (goodReading_any D r W hn hs);have Y:=hq.keep hbW;unfold Ap.arr Da.cells at *;have x0:=X.cell 0;have x1:=X.cell 1;have x2:=X.cell 2;have x3:=X.cell 3;have x4:=X.cell 4;have y0:=Y.cell 0;have y1:=Y.cell 1;have y2:=Y.cell 2;have y3:=Y.cell 3;have yl:=Y.lt;simp at x0 x1 x2 x3 x4 y0 y1 y2 y3;have HW:=Hd hW;clear hW X Y hq hs;go_enter Tryz.func188,Tryz.ntmps188;go_upto_region 1 with fail
 rw [HW.out];clear HW;go_wp2_with (go_at_call 189;refine HG.out.mono ?_;rintro e w1 ⟨rfl,hb1⟩);go_ret;exact ⟨rfl,hbW.trans (hb1.mono hbW.size)⟩
theorem wstp_ix (q:Nat) (A:Option Addr) (c n:Nat) (el:Nat->List Value) (bad:Nat->Bool) (w:World) (hrow:Hw w A 5 n el) (hn:n<=9223372036854775807)
  (hcall:∀ X,Below w.heap.size w X->∀ k,k<n->Calls Tryz.prog 185 (#[.agg (el k).toArray] ++ #[.pointer (some ⟨q,0,none⟩)]) X fun e w'=>e=.returned (.bool (bad k))/\Below X.heap.size X w') :
  Calls Tryz.prog 215 #[.slice A n c,.func (.func 185) #[] #[.pointer (some ⟨q,0,none⟩)]] w fun e w'=>e=.returned (.int .i64 (Cs bad n))/\Below w.heap.size w w':=by
 have HR:=Hd hrow;have HC:=Hd hcall;clear hrow hcall;have hB0:=Below.refl w.heap.size w;go_enter Tryz.func215,Tryz.ntmps215;go_wp2_with fail;go_loopw [8] (fun i wr=>∃ k:Nat,k<=n/\i=.int .i64 k/\Below w.heap.size w wr/\Hid (∀ j,j<k->bad j=false)) (fun i _=>n - (intOf i).toNat)
 case atStart=>exact ⟨0,Nat.zero_le _,rfl,hB0,fun j h=>absurd h (by omega)⟩
 case round =>
  obtain ⟨k,hk,rfl,hBr,hall⟩:=hrel;clear hB0
  by_cases hlt:k<n
  ·have hkI:(k:Int)<n:=by omega
   obtain ⟨b5,o5,hA,hb5,hc5⟩:=(HR.out.below hBr).2 (by omega)
   have hlen:=HR.out.1 k hlt;have HE:=Hd (HC.out wr hBr k hlt);obtain ⟨u0,u1,u2,u3,u4,hel⟩:=list5_of hlen;have c0:wr.cell? ⟨b5,o5+k*5,none⟩=some u0:=by have:=hc5 k hlt 0 u0 (by rw [hel];rfl);simpa using this
   have c1:wr.cell? ⟨b5,o5+k*5+1,none⟩=some u1:=by have:=hc5 k hlt 1 u1 (by rw [hel];rfl);simpa using this
   have c2:wr.cell? ⟨b5,o5+k*5+2,none⟩=some u2:=by have:=hc5 k hlt 2 u2 (by rw [hel];rfl);simpa using this
   have c3:wr.cell? ⟨b5,o5+k*5+3,none⟩=some u3:=by have:=hc5 k hlt 3 u3 (by rw [hel];rfl);simpa using this
   have c4:wr.cell? ⟨b5,o5+k*5+4,none⟩=some u4:=by have:=hc5 k hlt 4 u4 (by rw [hel];rfl);simpa using this
   rw [hel] at HE;change Hid (Calls Tryz.prog 185 #[.agg #[u0,u1,u2,u3,u4],.pointer (some ⟨q,0,none⟩)] wr _) at HE;have HF:Hid (bad k=true->Cs bad n=k):=fun h=>Es hlt hall.out h
   have HN:Hid (bad k=false->∀ j,j<k+1->bad j=false):=fun h=>Fq hall.out h
   rw [hA];clear hA hc5 hlen hel hall;cases hs:bad k
   ·rw [hs] at HE;have HN2:=Hd (HN.out hs);clear HN HF hs;go_wp2_with (go_at_call 185;refine HE.out.mono ?_;rintro e w1 ⟨rfl,hb1⟩);have hB1:=hBr.trans (hb1.mono hBr.size);go_roundw
    case rel=>exact ⟨k+1,by omega,by go_num,hB1,HN2⟩
    case measure=>simp [intOf];omega
   ·rw [hs] at HE;have HF2:=Hd (HF.out hs);clear HN HF hs;go_wp2_with (go_at_call 185;refine HE.out.mono ?_;rintro e w1 ⟨rfl,hb1⟩);go_ret;exact ⟨Cb HF2.out.symm,hBr.trans (hb1.mono hBr.size)⟩
  ·obtain rfl:k=n:=by omega
   have HF:=Hd (Ea hall.out);clear hall;go_wp2;go_ret;exact ⟨Cb HF.out.symm,hBr⟩
theorem wstp_has (q:Nat) (A:Option Addr) (c n:Nat) (el:Nat->List Value) (bad:Nat->Bool) (w:World) (hrow:Hw w A 5 n el) (hn:n<=9223372036854775807)
  (hcall:∀ X,Below w.heap.size w X->∀ k,k<n->Calls Tryz.prog 185 (#[.agg (el k).toArray] ++ #[.pointer (some ⟨q,0,none⟩)]) X fun e w'=>e=.returned (.bool (bad k))/\Below X.heap.size X w') :
  Calls Tryz.prog 184 #[.slice A n c,.func (.func 185) #[] #[.pointer (some ⟨q,0,none⟩)]] w fun e w'=>e=.returned (.bool (Fd bad n))/\Below w.heap.size w w':=by
 have HI:=Hd (wstp_ix q A c n el bad w hrow hn hcall);have HG:=Hd (Et bad n);clear hrow hcall;go_enter Tryz.func184,Tryz.ntmps184;go_wp2_with (go_at_call 215;refine HI.out.mono ?_;rintro e w1 ⟨rfl,hb1⟩);go_ret;exact ⟨Af HG.out,hb1⟩
theorem wrd_ix (q:Nat) (A:Option Addr) (c n:Nat) (el:Nat->List Value) (bad:Nat->Bool) (w:World) (hrow:Hw w A 5 n el) (hn:n<=9223372036854775807)
  (hcall:∀ X,Below w.heap.size w X->∀ k,k<n->Calls Tryz.prog 188 (#[.agg (el k).toArray] ++ #[.pointer (some ⟨q,0,none⟩)]) X fun e w'=>e=.returned (.bool (bad k))/\Below X.heap.size X w') :
  Calls Tryz.prog 217 #[.slice A n c,.func (.func 188) #[] #[.pointer (some ⟨q,0,none⟩)]] w fun e w'=>e=.returned (.int .i64 (Cs bad n))/\Below w.heap.size w w':=by
 have HR:=Hd hrow;have HC:=Hd hcall;clear hrow hcall;have hB0:=Below.refl w.heap.size w;go_enter Tryz.func217,Tryz.ntmps217;go_wp2_with fail;go_loopw [8] (fun i wr=>∃ k:Nat,k<=n/\i=.int .i64 k/\Below w.heap.size w wr/\Hid (∀ j,j<k->bad j=false)) (fun i _=>n - (intOf i).toNat)
 case atStart=>exact ⟨0,Nat.zero_le _,rfl,hB0,fun j h=>absurd h (by omega)⟩
 case round =>
  obtain ⟨k,hk,rfl,hBr,hall⟩:=hrel;clear hB0
  by_cases hlt:k<n
  ·have hkI:(k:Int)<n:=by omega
   obtain ⟨b5,o5,hA,hb5,hc5⟩:=(HR.out.below hBr).2 (by omega)
   have hlen:=HR.out.1 k hlt;have HE:=Hd (HC.out wr hBr k hlt);obtain ⟨u0,u1,u2,u3,u4,hel⟩:=list5_of hlen;have c0:wr.cell? ⟨b5,o5+k*5,none⟩=some u0:=by have:=hc5 k hlt 0 u0 (by rw [hel];rfl);simpa using this
   have c1:wr.cell? ⟨b5,o5+k*5+1,none⟩=some u1:=by have:=hc5 k hlt 1 u1 (by rw [hel];rfl);simpa using this
   have c2:wr.cell? ⟨b5,o5+k*5+2,none⟩=some u2:=by have:=hc5 k hlt 2 u2 (by rw [hel];rfl);simpa using this
   have c3:wr.cell? ⟨b5,o5+k*5+3,none⟩=some u3:=by have:=hc5 k hlt 3 u3 (by rw [hel];rfl);simpa using this
   have c4:wr.cell? ⟨b5,o5+k*5+4,none⟩=some u4:=by have:=hc5 k hlt 4 u4 (by rw [hel];rfl);simpa using this
   rw [hel] at HE;change Hid (Calls Tryz.prog 188 #[.agg #[u0,u1,u2,u3,u4],.pointer (some ⟨q,0,none⟩)] wr _) at HE;have HF:Hid (bad k=true->Cs bad n=k):=fun h=>Es hlt hall.out h
   have HN:Hid (bad k=false->∀ j,j<k+1->bad j=false):=fun h=>Fq hall.out h
   rw [hA];clear hA hc5 hlen hel hall;cases hs:bad k
   ·rw [hs] at HE;have HN2:=Hd (HN.out hs);clear HN HF hs;go_wp2_with (go_at_call 188;refine HE.out.mono ?_;rintro e w1 ⟨rfl,hb1⟩);have hB1:=hBr.trans (hb1.mono hBr.size);go_roundw
    case rel=>exact ⟨k+1,by omega,by go_num,hB1,HN2⟩
    case measure=>simp [intOf];omega
   ·rw [hs] at HE;have HF2:=Hd (HF.out hs);clear HN HF hs;go_wp2_with (go_at_call 188;refine HE.out.mono ?_;rintro e w1 ⟨rfl,hb1⟩);go_ret;exact ⟨Cb HF2.out.symm,hBr.trans (hb1.mono hBr.size)⟩
  ·obtain rfl:k=n:=by omega
   have HF:=Hd (Ea hall.out);clear hall;go_wp2;go_ret;exact ⟨Cb HF.out.symm,hBr⟩
theorem wrd_has (q:Nat) (A:Option Addr) (c n:Nat) (el:Nat->List Value) (bad:Nat->Bool) (w:World) (hrow:Hw w A 5 n el) (hn:n<=9223372036854775807)
  (hcall:∀ X,Below w.heap.size w X->∀ k,k<n->Calls Tryz.prog 188 (#[.agg (el k).toArray] ++ #[.pointer (some ⟨q,0,none⟩)]) X fun e w'=>e=.returned (.bool (bad k))/\Below X.heap.size X w') :
  Calls Tryz.prog 187 #[.slice A n c,.func (.func 188) #[] #[.pointer (some ⟨q,0,none⟩)]] w fun e w'=>e=.returned (.bool (Fd bad n))/\Below w.heap.size w w':=by
 have HI:=Hd (wrd_ix q A c n el bad w hrow hn hcall);have HG:=Hd (Et bad n);clear hrow hcall;go_enter Tryz.func187,Tryz.ntmps187;go_wp2_with (go_at_call 217;refine HI.out.mono ?_;rintro e w1 ⟨rfl,hb1⟩);go_ret;exact ⟨Af HG.out,hb1⟩
theorem steps_all (D:Ap) (d:Bh):(!Fd (fun k=>!Ku (D.S.getD k d)) D.S.length)=D.good:=by
 unfold Ap.good;cases h:D.S.all Ku with
 | true =>
  rw [List.all_eq_true] at h;have:Fd (fun k=>!Ku (D.S.getD k d)) D.S.length=false:=Fu.2 fun k hk=>by
   rw [Aj _ _ hk,h _ (List.getElem_mem hk)];rfl
  rw [this];rfl
 | false =>
  cases h2:Fd (fun k=>!Ku (D.S.getD k d)) D.S.length with
  | true=>rfl
  | false =>
   rw [Fu] at h2;have:D.S.all Ku=true:=by
    rw [List.all_eq_true];intro x hx;obtain ⟨k,hk,rfl⟩:=List.getElem_of_mem hx;have:=h2 k hk;rw [Aj _ _ hk] at this
    simpa using this
   rw [this] at h;cases h
def step0:Bh:=⟨0,0,[],none,0,0,0⟩
def read0:Da:=⟨0,0,0,0,0⟩
def chkE (D:Ap):Int:=if D.good then 0 else 40
def chkK (D:Ap):Int:=if D.good then 0 else 3
theorem wcheck_any (D:Ap) (w:World) (hA:D.At w) (hD:D.Ok) :
  Calls Tryz.prog 140 #[.agg D.arr] w fun e w'=>e=.returned (.tuple #[.int .i64 (chkE D),.int .i64 (chkK D)])/\Below w.heap.size w w':=by
 obtain ⟨W,hW⟩:∃ W,w.alloc (.cells D.arr 55)=W:=⟨_,rfl⟩;have hbW:Below w.heap.size w W:=by rw [<- hW];exact Ba
 have X:Bk W w.heap.size 55 D.arr:=by rw [<- hW];exact Aa rfl
 have hn:=hD.n;have h8:=hD.h8;have h10:=hD.s10;have hr10:=hD.r10;have HS1:=Hd (fun (V:World) (hV:Below w.heap.size w V)=>wspans_any D.A1 D.c1 D.st (-1000000000) 1000000000 V (hA.r1.below hV) (by omega) (fun x hx=>by have:=hD.st x hx;omega))
 have HS2:=Hd (fun (V:World) (hV:Below w.heap.size w V)=>wspans_any D.A2 D.c2 D.hp 1 255 V (hA.r2.below hV) (by omega) (fun x hx=>by have:=hD.hp x hx;omega))
 have HS3:=Hd (fun (V:World) (hV:Below w.heap.size w V) (hX:Bk V w.heap.size 55 D.arr) =>
  wstp_has w.heap.size D.A3 D.c3 D.S.length _ (fun k=>!Ku (D.S.getD k step0)) V (Hw.of_row Bh.cells (fun _=>rfl) (by omega) step0 (hA.r3.below hV)) (by omega) (fun U hU k hk=>by
   have hm:D.S.getD k step0∈D.S:=by rw [Aj _ _ hk];exact List.getElem_mem hk
   exact chk1_any D w.heap.size (D.S.getD k step0) U (hX.keep hU) ⟨hn.2,h8⟩ (hD.sp _ hm) ((hA.tm _ hm).below (hV.trans (hU.mono hV.size)))))
 have HS4:=Hd (fun (V:World) (hV:Below w.heap.size w V) (hX:Bk V w.heap.size 55 D.arr) =>
  wrd_has w.heap.size D.A4 D.c4 D.R.length _ (fun k=>false) V (Hw.of_row Da.cells (fun _=>rfl) (by omega) read0 (hA.r4.below hV)) (by omega) (fun U hU k hk=>by
   have hm:D.R.getD k read0∈D.R:=by rw [Aj _ _ hk];exact List.getElem_mem hk
   exact chk2_any D w.heap.size (D.R.getD k read0) U (hX.keep hU) ⟨hn.2,h10⟩ (hD.rd _ hm)))
 have HG:=Hd (steps_all D step0);have HE:Hid (chkE D=if D.good then 0 else 40):=rfl
 have HK:Hid (chkK D=if D.good then 0 else 3):=rfl
 have HF:Hid (Fd (fun _=>false) D.R.length=false):=Fu.2 fun _ _=>rfl
 rw [HF.out] at HS4;rw [<- HG.out] at HE HK;clear HG HF hA hD;generalize Fd (fun k=>!Ku (D.S.getD k step0)) D.S.length=v at *
 generalize chkE D=eE at *;generalize chkK D=eK at *;have HW:=Hd hW;have HX:=Hd (Ai X hbW);unfold Ap.arr at *;have x0:=X.cell 0;have x1:=X.cell 1;have x2:=X.cell 2;have x3:=X.cell 3;have xl:=X.lt;simp at x0 x1 x2 x3;generalize D.st.length=ns at *;generalize D.hp.length=nh at *;generalize D.S.length=n3 at *;generalize D.R.length=n4 at *;have i1:¬ (4096:Int)<ns:=by omega
 have i2:¬ (8:Int)<nh:=by omega
 have i3:¬ (64:Int)<n3:=by omega
 have i4:¬ (200:Int)<n4:=by omega
 have i5:¬ (ns:Int)=0:=by omega
 clear hW X hbW hn h8 h10 hr10;go_enter Tryz.func140,Tryz.ntmps140;go_upto_region 1 with fail
 rw [HW.out];clear HW;go_upto_region 5 with (go_at_call 183;refine (HS1.out _ HX.out.2).mono ?_;rintro e w1 ⟨rfl,hb1⟩)
 have HB1:=Hd (Ai (HX.out.1.keep hb1) (HX.out.2.trans (hb1.mono HX.out.2.size)));have x1:=HB1.out.1.cell 1;have x2:=HB1.out.1.cell 2;have x3:=HB1.out.1.cell 3;have xl:=HB1.out.1.lt;simp at x1 x2 x3;clear HX hb1 HS1;go_upto_region 7 with (go_at_call 183;refine (HS2.out _ HB1.out.2).mono ?_;rintro e w2 ⟨rfl,hb2⟩)
 have HB2:=Hd (Ai (HB1.out.1.keep hb2) (HB1.out.2.trans (hb2.mono HB1.out.2.size)));clear x1 x2 x3 xl;have x2:=HB2.out.1.cell 2;have x3:=HB2.out.1.cell 3;have xl:=HB2.out.1.lt;simp at x2 x3;clear HB1 hb2 HS2;cases v with
 | true =>
  go_wp2_with (go_at_call 184;refine (HS3.out _ HB2.out.2 HB2.out.1).mono ?_;rintro e w3 ⟨rfl,hb3⟩);go_ret2;refine ⟨?_,HB2.out.2.trans (hb3.mono HB2.out.2.size)⟩;rw [HE.out,HK.out];rfl
 | false =>
  go_upto_region 9 with (go_at_call 184;refine (HS3.out _ HB2.out.2 HB2.out.1).mono ?_;rintro e w3 ⟨rfl,hb3⟩)
  have HB3:=Hd (Ai (HB2.out.1.keep hb3) (HB2.out.2.trans (hb3.mono HB2.out.2.size)));clear x2 x3 xl;have x3:=HB3.out.1.cell 3;have xl:=HB3.out.1.lt;simp at x3;clear HB2 hb3 HS3;go_wp2_with (go_at_call 187;refine (HS4.out _ HB3.out.2 HB3.out.1).mono ?_;rintro e w4 ⟨rfl,hb4⟩);go_ret2;refine ⟨?_,HB3.out.2.trans (hb4.mono HB3.out.2.size)⟩;rw [HE.out,HK.out];rfl
end
section
attribute [local go_sem ↓] Ei Eh
theorem prodW_pos:∀ {l:List (Int×Int)},(∀ x∈l,1<=x.1/\x.1<=x.2/\x.2<=255)->1<=Ew l
 | [],_=>Int.le_refl _
 | h :: l,hl=>by
  have h1:=prodW_pos (l:=l) (fun x hx=>hl x (by simp [hx]))
  have h2:=hl h (by simp)
  have h3:1*1<=(h.2 - h.1+1)*Ew l:=Int.mul_le_mul (by omega) h1 (by omega) (by omega)
  simpa [Ew] using h3
theorem prodW_append (l m:List (Int×Int)):Ew (l ++ m)=Ew l*Ew m:=by
 induction l with
 | nil=>simp [Ew]
 | cons h l ih=>simp [Ew,ih,Int.mul_assoc]
theorem prodW_take {l:List (Int×Int)} (hl:∀ x∈l,1<=x.1/\x.1<=x.2/\x.2<=255) (k:Nat):1<=Ew (l.take k)/\Ew (l.take k)<=Ew l:=by
 have h1:=prodW_pos (l:=l.take k) (fun x hx=>hl x (List.mem_of_mem_take hx))
 have h2:=prodW_pos (l:=l.drop k) (fun x hx=>hl x (List.mem_of_mem_drop hx))
 refine ⟨h1,?_⟩;have h3:Ew l=Ew (l.take k)*Ew (l.drop k):=by rw [<- prodW_append,List.take_append_drop]
 have h4:Ew (l.take k)*1<=Ew (l.take k)*Ew (l.drop k):=Int.mul_le_mul_of_nonneg_left h2 (by omega)
 omega
theorem prodW_step {l:List (Int×Int)} {k:Nat} (hk:k<l.length):Ew (l.take (k+1))=Ew (l.take k)*((l.getD k (0,0)).2 - (l.getD k (0,0)).1+1):=by
 have e:l.take (k+1)=l.take k ++ [l.getD k (0,0)]:=by rw [List.take_add_one,List.getElem?_eq_getElem hk,Aj _ _ hk];rfl
 rw [e,prodW_append];simp [Ew]
theorem wide_any (D:Ap) (w:World) (hA:D.At w) (hD:D.Ok) :
  Calls Tryz.prog 141 #[.agg D.arr] w fun e w'=>e=.returned (.bool false)/\Below w.heap.size w w':=by
 obtain ⟨W,hW⟩:∃ W,w.alloc (.cells D.arr 55)=W:=⟨_,rfl⟩;have hbW:Below w.heap.size w W:=by rw [<- hW];exact Ba
 have X:Bk W w.heap.size 55 D.arr:=by rw [<- hW];exact Aa rfl
 have h8:=hD.h8;have HR:=Hd (fun (V:World) (h:Below w.heap.size w V)=>hA.r2.below h)
 have HP:=Hd (fun k=>prodW_take hD.hp k)
 have HW12:=Hd hD.wd;have HS:=Hd (fun (k:Nat) (hk:k<D.hp.length)=>prodW_step (l:=D.hp) hk)
 have HH:=Hd (fun (k:Nat) (hk:k<D.hp.length)=>hD.hp _ (List.getElem_mem hk))
 have HW:=Hd hW;have HX:=Hd (Ai X hbW);unfold Ap.arr at *;have x1:=X.cell 1;have xl:=X.lt;simp at x1;clear hW X hbW hA hD;go_enter Tryz.func141,Tryz.ntmps141;go_upto_region 1 with fail
 rw [HW.out];clear HW;go_wp2_with fail;go_loopw [3,9] (fun m i wr=>∃ k:Nat,k<=D.hp.length/\i=.int .i64 k/\m=.int .i64 (Ew (D.hp.take k))/\Below w.heap.size w wr) (fun _ i _=>D.hp.length - (intOf i).toNat)
 case atStart=>exact ⟨0,Nat.zero_le _,rfl,rfl,HX.out.2⟩
 case round =>
  obtain ⟨k,hk,rfl,rfl,hBr⟩:=hrel;clear x1 xl
  by_cases hlt:k<D.hp.length
  ·have hkI:(k:Int)<D.hp.length:=by omega
   have hkl:=hlt;obtain ⟨b5,o5,hA5,hb5,hc5⟩:=span_row (HR.out wr hBr) (by omega)
   obtain ⟨c0,c1⟩:=hc5 k hkl;have hh:=HH.out k hlt;rw [<- Aj D.hp (0,0) hkl] at hh;have hs:=HS.out k hlt;have hp:=HP.out k;have hp1:=HP.out (k+1);have hw:=HW12.out;have HN:=Hd hs;rw [hs] at hp1;obtain ⟨q,hq⟩:∃ q,wr.heap.size=q:=⟨_,rfl⟩;have HB1:=Hd (show Below w.heap.size w (wr.alloc (.cells #[.int .i64 (D.hp.getD k (0,0)).1,.int .i64 (D.hp.getD k (0,0)).2] 29)) from hBr.alloc hBr.size _)
   rw [hA5];clear hA5 hc5 hs;generalize (D.hp.getD k (0,0)).1=lo at *;generalize (D.hp.getD k (0,0)).2=hi at *;generalize Ew (D.hp.take k)=m at *;generalize Ew D.hp=M at *;have e1:hi - lo+1<=255/\1<=hi - lo+1:=by omega
   have e2:¬ 256<m*(hi - lo+1):=by omega
   go_wp2_with fail;go_roundw
   case rel=>exact ⟨k+1,by omega,by go_num,by rw [HN.out],HB1.out⟩
   case measure=>simp [intOf];omega
  ·obtain rfl:k=D.hp.length:=by omega
   go_wp2;go_ret;exact ⟨rfl,hBr⟩
def askedE (D:Ap) (right:Bool):Int:=if D.good then (if right then 0 else 1) else 40
theorem asked_any (D:Ap) (right:Bool) (w:World) (hA:D.At w) (hD:D.Ok) :
  Calls Tryz.prog 93 #[.agg D.arr,.pointer none,.bool right] w fun e w'=>e=.returned (.int .i64 (askedE D right))/\Below w.heap.size w w':=by
 obtain ⟨W,hW⟩:∃ W,w.alloc (.cells D.arr 55)=W:=⟨_,rfl⟩;have hbW:Below w.heap.size w W:=by rw [<- hW];exact Ba
 have X:Bk W w.heap.size 55 D.arr:=by rw [<- hW];exact Aa rfl
 have HC:=Hd (wcheck_any D W (hA.below hbW) hD);have HWD:=Hd (fun (V:World) (h:Below w.heap.size w V)=>wide_any D V (hA.below h) hD)
 have HE:Hid (chkE D=if D.good then 0 else 40):=rfl
 have HA:Hid (askedE D right=if D.good then (if right then 0 else 1) else 40):=rfl
 have HW:=Hd hW;have HX:=Hd (Ai X hbW);unfold Ap.arr at *;have x0:=X.cell 0;have x1:=X.cell 1;have x2:=X.cell 2;have x3:=X.cell 3;have xl:=X.lt;simp at x0 x1 x2 x3;generalize D.good=g at *;generalize chkE D=eE at *;generalize chkK D=eK at *;generalize askedE D right=aE at *;clear hW X hbW hA hD;go_enter Tryz.func93,Tryz.ntmps93;go_upto_region 1 with fail
 rw [HW.out];clear HW;cases g with
 | false =>
  have e0:eE=40:=HE.out;subst e0;go_wp2_with (go_at_call 140;refine HC.out.mono ?_;rintro e w1 ⟨rfl,hb1⟩);go_ret;exact ⟨Cb HA.out.symm,HX.out.2.trans (hb1.mono HX.out.2.size)⟩
 | true =>
  have e0:eE=0:=HE.out;subst e0;cases right with
  | true =>
   go_upto_region 4 with (go_at_call 140;refine HC.out.mono ?_;rintro e w1 ⟨rfl,hb1⟩)
   have HX1:=Hd (Ai (HX.out.1.keep hb1) (HX.out.2.trans (hb1.mono HX.out.2.size)));clear x0 x1 x2 x3 xl hb1;have x0:=HX1.out.1.cell 0;have x1:=HX1.out.1.cell 1;have x2:=HX1.out.1.cell 2;have x3:=HX1.out.1.cell 3;have xl:=HX1.out.1.lt;simp at x0 x1 x2 x3;go_wp2_with (go_at_call 141;refine (HWD.out _ HX1.out.2).mono ?_;rintro e w2 ⟨rfl,hb2⟩);go_quiet (fail);go_wp2_with fail;go_ret;exact ⟨Cb HA.out.symm,As (HX1.out.2.trans (hb2.mono HX1.out.2.size)) _⟩
  | false =>
   go_upto_region 4 with (go_at_call 140;refine HC.out.mono ?_;rintro e w1 ⟨rfl,hb1⟩)
   have HX1:=Hd (Ai (HX.out.1.keep hb1) (HX.out.2.trans (hb1.mono HX.out.2.size)));clear x0 x1 x2 x3 xl hb1;have x0:=HX1.out.1.cell 0;have x1:=HX1.out.1.cell 1;have x2:=HX1.out.1.cell 2;have x3:=HX1.out.1.cell 3;have xl:=HX1.out.1.lt;simp at x0 x1 x2 x3;go_wp2_with (go_at_call 141;refine (HWD.out _ HX1.out.2).mono ?_;rintro e w2 ⟨rfl,hb2⟩);go_quiet (fail);go_wp2_with fail;go_ret;exact ⟨Cb HA.out.symm,As (HX1.out.2.trans (hb2.mono HX1.out.2.size)) _⟩
end
section
attribute [local go_sem ↓] Ei Eh
theorem neq29 (W:World) (a b c d:Int):(binOp .neq 29 (.agg #[.int .i64 a,.int .i64 b]) (.agg #[.int .i64 c,.int .i64 d])).run Tryz.prog W=.ok (.bool (!(a == c && b == d))) W:=by
 simp [go_sem,Tryz.underlying29]
 by_cases h1:a=c<;>by_cases h2:b=d<;>simp [*]
theorem sameSpans0_any (A B:Option Addr) (c d:Nat) (l m:List (Int×Int)) (w:World) (hA:Ad w A (Am l)) (hB:Ad w B (Am m)) (hl:l.length<=1000) (hm:m.length<=1000) :
  Calls Tryz.prog 23 #[.slice A l.length c,.slice B m.length d] w fun e w'=>e=.returned (.bool (decide (l=m)))/\Below w.heap.size w w':=by
 have hB0:=Below.refl w.heap.size w
 by_cases hn:l.length=m.length
 ·have HR:=Hd (Ai (fun (X:World) (h:Below w.heap.size w X)=>hA.below h) (fun (X:World) (h:Below w.heap.size w X)=>hB.below h))
  have HN:=Hd hn;rw [<- hn];clear hA hB hn;go_enter Tryz.func23,Tryz.ntmps23;go_wp2_with fail;go_loopw [5] (fun i wr=>∃ k:Nat,k<=l.length/\i=.int .i64 k/\Below w.heap.size w wr/\Hid (∀ j,j<k->l.getD j (0,0)=m.getD j (0,0))) (fun i _=>l.length - (intOf i).toNat)
  case atStart=>exact ⟨0,Nat.zero_le _,rfl,hB0,fun j h=>absurd h (by omega)⟩
  case round =>
   obtain ⟨k,hk,rfl,hBr,hall⟩:=hrel;clear hB0
   by_cases hlt:k<l.length
   ·have hkI:(k:Int)<l.length:=by omega
    have hn:=HN.out;obtain ⟨b5,o5,hA5,hb5,hc5⟩:=span_row (HR.out.1 wr hBr) (by omega)
    obtain ⟨b6,o6,hA6,hb6,hc6⟩:=span_row (HR.out.2 wr hBr) (by omega)
    obtain ⟨c0,c1⟩:=hc5 k hlt;obtain ⟨d0,d1⟩:=hc6 k (by omega)
    have HX:Hid (l.getD k (0,0)=m.getD k (0,0)->∀ j,j<k+1->l.getD j (0,0)=m.getD j (0,0)):=Hd (fun h j hj=>by
     by_cases hjk:j=k
     ·subst hjk;exact h
     ·exact hall.out j (by omega))
    have HY:Hid (l.getD k (0,0)≠m.getD k (0,0)->l≠m):=Hd (fun h e=>h (by rw [e]))
    have hkm:(k:Int)<m.length:=by omega
    rw [hA5,hA6];clear hA5 hA6 hc5 hc6 hall hn;generalize l.getD k (0,0)=x at *;generalize m.getD k (0,0)=y at *;obtain ⟨x1,x2⟩:=x;obtain ⟨y1,y2⟩:=y;simp only at c0 c1 d0 d1;have e0:=fun W:World=>neq29 W x1 x2 y1 y2
    have hq:Hid ((x1 == y1 && x2 == y2)=decide ((x1,x2)=(y1,y2))):=Hd (by by_cases h1:x1=y1<;>by_cases h2:x2=y2<;>simp [*])
    have HB:=Hd hBr;cases hv:(x1 == y1 && x2 == y2) with
    | true =>
     rw [hv] at hq e0;have HX2:=Hd (HX.out (by simpa using hq.out.symm))
     clear HX HY hv hq hBr;go_wp2_with fail;go_quiet (fail);go_wp2_with fail;go_roundw
     case rel=>exact ⟨k+1,by omega,by go_num,As HB.out _,HX2⟩
     case measure=>simp [intOf];omega
    | false =>
     rw [hv] at hq e0;have HY2:=Hd (HY.out (by simpa using hq.out.symm))
     clear HX HY hv hq hBr;go_wp2_with fail;go_quiet (fail);go_wp2_with fail;go_ret;exact ⟨Af (by simp [HY2.out]),As HB.out _⟩
   ·obtain rfl:k=l.length:=by omega
    have HE:Hid (l=m):=Hd (List.ext_getElem HN.out fun i h1 h2=>by
     have:=hall.out i h1
     rwa [Aj _ _ h1,Aj _ _ h2] at this)
    clear hall;go_wp2_with fail;go_ret;exact ⟨Af (by simp [HE.out]),hBr⟩
 ·have hnI:¬ (l.length:Int)=m.length:=by omega
  have HN:=Hd (show l≠m from fun e=>hn (by rw [e]))
  clear hn;go_enter Tryz.func23,Tryz.ntmps23;go_wp2_with fail;go_ret;exact ⟨Af (by simp [HN.out]),hB0⟩
theorem sameSpans_any (A B:Option Addr) (c d:Nat) (l m:List (Int×Int)) (w:World) (hA:Ad w A (Am l)) (hB:Ad w B (Am m)) (hl:l.length<=1000) (hm:m.length<=1000) :
  Calls Tryz.prog 11 #[.slice A l.length c,.slice B m.length d] w fun e w'=>e=.returned (.bool (decide (l=m)))/\Below w.heap.size w w':=by
 have H:=Hd (sameSpans0_any A B c d l m w hA hB hl hm);clear hA hB;go_enter Tryz.func11,Tryz.ntmps11;go_wp2_with (go_at_call 23;refine H.out.mono ?_;rintro e w1 ⟨rfl,hb1⟩);go_ret;exact ⟨rfl,hb1⟩
theorem hull_any (a b:Int×Int) (w:World) :
  Calls Tryz.prog 97 #[.agg #[.int .i64 a.1,.int .i64 a.2],.agg #[.int .i64 b.1,.int .i64 b.2]] w fun e w'=>e=.returned (.agg #[.int .i64 (Du a b).1,.int .i64 (Du a b).2])/\Below w.heap.size w w':=by
 obtain ⟨a1,a2⟩:=a;obtain ⟨b1,b2⟩:=b;simp only [Du];obtain ⟨W,hW⟩:∃ W,((w.alloc (.cells #[.int .i64 a1,.int .i64 a2] 29)).alloc (.cells #[.int .i64 b1,.int .i64 b2] 29)).alloc (.cells #[.int .i64 0,.int .i64 0] 29)=W:=⟨_,rfl⟩;have hbW:Below w.heap.size w W:=by rw [<- hW];exact (Ba.alloc (by simp) _).alloc (by simp;omega) _
 have X:Bk W w.heap.size 29 #[.int .i64 a1,.int .i64 a2]:=by rw [<- hW];exact ((Aa rfl).alloc _).alloc _
 have Y:Bk W (w.heap.size+1) 29 #[.int .i64 b1,.int .i64 b2]:=by rw [<- hW];exact (Aa (by simp)).alloc _
 have Z:Bk W (w.heap.size+1+1) 29 #[.int .i64 0,.int .i64 0]:=by rw [<- hW];exact Aa (by simp)
 have x0:=X.cell 0;have x1:=X.cell 1;have y0:=Y.cell 0;have y1:=Y.cell 1;have z0:=Z.cell 0;have z1:=Z.cell 1;have k0:=Z.fz 0;have k1:=Z.fz 1;have kl:=Z.lt;simp at x0 x1 y0 y1 z0 z1;have R:Bk ((W.setCell ⟨w.heap.size+1+1,0,none⟩ (.int .i64 (min a1 b1))).setCell ⟨w.heap.size+1+1,1,none⟩ (.int .i64 (max a2 b2))) (w.heap.size+1+1) 29 _:=(Z.put 0 (.int .i64 (min a1 b1))).put 1 (.int .i64 (max a2 b2));have hB:=(hbW.setCell (p:=⟨w.heap.size+1+1,0,none⟩) (by simp;omega) (.int .i64 (min a1 b1))).setCell (p:=⟨w.heap.size+1+1,1,none⟩) (by simp;omega) (.int .i64 (max a2 b2))
 have HW:=Hd hW;clear hW X Y Z;go_enter Tryz.func97,Tryz.ntmps97;go_upto_region 1 with fail
 rw [HW.out];clear HW;go_wp2_with fail;refine bodyPost_ret (v:=.agg #[.int .i64 (min a1 b1),.int .i64 (max a2 b2)]) (results_cell_row rfl _ _ _ 29 _ (0,0) _ rfl R Tryz.underlying29 rfl (by kernel_rfl)) rfl ?_
 exact ⟨rfl,hB⟩
theorem ground_any (w:World) :
  Calls Tryz.prog 147 #[] w fun e w'=>e=.returned (.agg #[.int .i64 (-1),.int .i64 0])/\Below w.heap.size w w':=by
 obtain ⟨W,hW⟩:∃ W,w.alloc (.cells #[.int .i64 0,.int .i64 0] 141)=W:=⟨_,rfl⟩;have hbW:Below w.heap.size w W:=by rw [<- hW];exact Ba
 have Z:Bk W w.heap.size 141 #[.int .i64 0,.int .i64 0]:=by rw [<- hW];exact Aa rfl
 have z0:=Z.cell 0;have z1:=Z.cell 1;have k0:=Z.fz 0;have k1:=Z.fz 1;have kl:=Z.lt;simp at z0 z1;have R:Bk ((W.setCell ⟨w.heap.size,0,none⟩ (.int .i64 (-1))).setCell ⟨w.heap.size,1,none⟩ (.int .i64 0)) w.heap.size 141 _:=(Z.put 0 (.int .i64 (-1))).put 1 (.int .i64 0);have hB:=(hbW.setCell (p:=⟨w.heap.size,0,none⟩) (by simp) (.int .i64 (-1))).setCell (p:=⟨w.heap.size,1,none⟩) (by simp) (.int .i64 0)
 have HW:=Hd hW;clear hW Z;go_enter Tryz.func147,Tryz.ntmps147;go_upto_region 1 with fail
 rw [HW.out];clear HW;go_wp2_with fail;refine bodyPost_ret (v:=.agg #[.int .i64 (-1),.int .i64 0]) (results_cell_row rfl _ _ _ 141 _ (0,0) _ rfl R Tryz.underlying141 rfl (by kernel_rfl)) rfl ?_
 exact ⟨rfl,hB⟩
theorem isSlice_any (D:Ap) (t:Int) (w:World) :
  Calls Tryz.prog 49 #[.agg D.arr,.int .i64 t] w fun e w'=>e=.returned (.bool (inB t 0 D.S.length))/\Below w.heap.size w w':=by
 obtain ⟨W,hW⟩:∃ W,w.alloc (.cells D.arr 55)=W:=⟨_,rfl⟩;have hbW:Below w.heap.size w W:=by rw [<- hW];exact Ba
 have X:Bk W w.heap.size 55 D.arr:=by rw [<- hW];exact Aa rfl
 unfold Ap.arr at *;have x2:=X.cell 2;simp at x2;have HW:=Hd hW;clear hW X;go_enter Tryz.func49,Tryz.ntmps49;go_upto_region 1 with fail
 rw [HW.out];clear HW;go_wp2_with (go_at_call 96;refine (Jg _ _ _ _).mono ?_;rintro e w1 ⟨rfl,rfl⟩);go_ret;exact ⟨rfl,hbW⟩
theorem last_any (D:Ap) (w:World) :
  Calls Tryz.prog 22 #[.agg D.arr] w fun e w'=>e=.returned (.int .i64 D.S.length)/\Below w.heap.size w w':=by
 obtain ⟨W,hW⟩:∃ W,w.alloc (.cells D.arr 55)=W:=⟨_,rfl⟩;have hbW:Below w.heap.size w W:=by rw [<- hW];exact Ba
 have X:Bk W w.heap.size 55 D.arr:=by rw [<- hW];exact Aa rfl
 unfold Ap.arr at *;have x2:=X.cell 2;simp at x2;have HW:=Hd hW;clear hW X;go_enter Tryz.func22,Tryz.ntmps22;go_upto_region 1 with fail
 rw [HW.out];clear HW;go_wp2_with fail;go_ret;exact ⟨rfl,hbW⟩
end
section
theorem place141:NameKey Tryz.prog 141 where
 und:=⟨_,Tryz.underlying141⟩
 chk:=fun e a b w=>by kernel_rfl
 eql:=fun a b c d w=>by
  unfold Ee;simp [Op.equal,Op.maxDepth,go_sem,Tryz.underlying141]
  by_cases h1:a=c<;>by_cases h2:b=d<;>simp [*]
theorem und323:Tryz.prog.underlying 323=some (.map 141 3):=by kernel_rfl
theorem zero3v (w:World):(zeroValue 3).run Tryz.prog w=.ok (.int .i64 0) w:=by kernel_rfl
def ixF (N:List (Int×Int)):Br:=N.zipIdx.map fun x=>(x.1,.int .i64 (x.2:Nat))
theorem ixF_keys (N:List (Int×Int)):(ixF N).map Prod.fst=N:=by
 unfold ixF;rw [List.map_map];have:(Prod.fst ∘ fun x:(Int×Int)×Nat=>((x.1,Value.int .i64 (x.2:Nat)):(Int×Int)×Value))=Prod.fst:=rfl
 rw [this,List.zipIdx_map_fst]
theorem ixF_snoc (N:List (Int×Int)) (p:Int×Int):ixF (N ++ [p])=ixF N ++ [(p,.int .i64 N.length)]:=by
 unfold ixF;rw [List.zipIdx_append];simp
theorem ixF_look {N:List (Int×Int)} (hn:N.Nodup) {p:Int×Int} (hp:p∈N):Ha (ixF N) p=some (.int .i64 (ixN N p:Nat)):=by
 refine lookF_of_mem (by rw [ixF_keys];exact hn) ?_
 unfold ixF;refine List.mem_map.2 ⟨(p,ixN N p),?_,rfl⟩;rw [List.mem_zipIdx_iff_getElem?];exact ixN_get hp
theorem ixF_no {N:List (Int×Int)} {p:Int×Int} (hp:p ∉ N):Ha (ixF N) p=none:=by
 rw [lookF_none,ixF_keys];exact hp
theorem look323 {w:World} {g:Nat} {N:List (Int×Int)} (h:Bv w g (ixF N)) (hn:N.Nodup) (a b:Int) (hp:(a,b)∈N) :
  (Instr.lookup 323 (.map (some g)) (.agg #[.int .i64 a,.int .i64 b]) false).run Tryz.prog w=.ok (.int .i64 (ixN N (a,b):Nat)) w:=by
 obtain ⟨es,c,hg,hf⟩:=h;have:=Kv place141 und323 zero3v a b g es c w _ hg hf false;rw [ixF_look hn hp] at this;exact this
theorem look323t {w:World} {g:Nat} {N:List (Int×Int)} (h:Bv w g (ixF N)) (hn:N.Nodup) (a b:Int) (hp:(a,b)∈N) :
  (Instr.lookup 323 (.map (some g)) (.agg #[.int .i64 a,.int .i64 b]) true).run Tryz.prog w=.ok (.tuple #[.int .i64 (ixN N (a,b):Nat),.bool true]) w:=by
 obtain ⟨es,c,hg,hf⟩:=h;have:=Kv place141 und323 zero3v a b g es c w _ hg hf true;rw [ixF_look hn hp] at this;exact this
theorem look323f {w:World} {g:Nat} {N:List (Int×Int)} (h:Bv w g (ixF N)) (a b:Int) (hp:(a,b) ∉ N) :
  (Instr.lookup 323 (.map (some g)) (.agg #[.int .i64 a,.int .i64 b]) true).run Tryz.prog w=.ok (.tuple #[.int .i64 0,.bool false]) w:=by
 obtain ⟨es,c,hg,hf⟩:=h;have:=Kv place141 und323 zero3v a b g es c w _ hg hf true;rw [ixF_no hp] at this;exact this
theorem upd323 {w:World} {g:Nat} {N:List (Int×Int)} (h:Bv w g (ixF N)) (a b:Int) (hp:(a,b) ∉ N) :
  ∃ w',(Instr.mapUpdate 323 (.map (some g)) (.agg #[.int .i64 a,.int .i64 b]) (.int .i64 N.length)).run Tryz.prog w=.ok () w'/\Bv w' g (ixF (N ++ [(a,b)]))/\(∀ k,k≠g->w'.heap[k]?=w.heap[k]?)/\w'.heap.size=w.heap.size/\w'.os=w.os/\w'.tape=w.tape/\w'.output=w.output:=by
 obtain ⟨es,c,hg,hf⟩:=h;obtain ⟨es',c',h1,h2⟩:=run_updateF place141 und323 a b (.int .i64 N.length) g es c w _ hg hf;rw [setF_new (by rw [ixF_keys];exact hp),<- ixF_snoc] at h2
 refine ⟨_,h1,⟨es',c',?_,h2⟩,fun k hk=>Fj hk _,Gs _ _ _,rfl,rfl,rfl⟩
 have:=(Array.getElem?_eq_some_iff.1 hg).1;simp [Go.ChangeMaps.setBlock,this]
structure RchAt (w:World) (r:Nat) (N:List (Int×Int)) (d:List Int):Prop where
 ex:∃ (g:Nat) (A B L:Option Addr) (a b k l m:Nat) (t:Value),Bk w r 329 #[.map (some g),.slice A d.length a,.slice B b k,.slice L l m,t]/\Bv w g (ixF N)/\Ad w A (Ac d)/\∀ x,A=some x->∃ cs,Bk w x.block 3 cs
theorem RchAt.below {w w':World} {r:Nat} {N:List (Int×Int)} {d:List Int} (h:RchAt w r N d) (hb:Below w.heap.size w w'):RchAt w' r N d:=by
 obtain ⟨g,A,B,L,a,b,k,l,m,t,h1,h2,h3,h4⟩:=h.ex;exact ⟨g,A,B,L,a,b,k,l,m,t,h1.keep hb,h2.below hb,h3.below hb,fun x hx=>(h4 x hx).imp fun _ h=>h.keep hb⟩
theorem of_any (r:Nat) (N:List (Int×Int)) (d:List Int) (p:Int×Int) (w:World) (hr:RchAt w r N d) (hn:N.Nodup) (hp:p∈N) (hl:d.length=N.length) (h9:N.length<=10000) :
  Calls Tryz.prog 148 #[.pointer (some ⟨r,0,none⟩),.agg #[.int .i64 p.1,.int .i64 p.2]] w fun e w'=>e=.returned (.int .i64 (d.getD (ixN N p) 0))/\Below w.heap.size w w':=by
 obtain ⟨p1,p2⟩:=p;obtain ⟨g,A,B,L,a,b,k,l,m,t,h1,h2,h3,_⟩:=hr.ex;obtain ⟨W,hW⟩:∃ W,w.alloc (.cells #[.int .i64 p1,.int .i64 p2] 141)=W:=⟨_,rfl⟩;have hbW:Below w.heap.size w W:=by rw [<- hW];exact Ba
 have X:Bk W w.heap.size 141 #[.int .i64 p1,.int .i64 p2]:=by rw [<- hW];exact Aa rfl
 have Y:=h1.keep hbW;have hi:=ixN_lt hp;have lk:=fun n:Nat=>look323 (w:=W.drewN n) (h2.below (As hbW n)) hn p1 p2 hp
 obtain ⟨b5,o5,hA,hb5,hc5⟩:=(h3.below hbW).intD (by omega)
 have c0:=hc5 (ixN N (p1,p2)) (by omega)
 have x0:=X.cell 0;have x1:=X.cell 1;have y0:=Y.cell 0;have y1:=Y.cell 1;have yl:=Y.lt;rw [hA] at y1;simp at x0 x1 y0 y1;have HW:=Hd hW;have hid:(ixN N (p1,p2):Int)<d.length:=by omega
 generalize d.getD (ixN N (p1,p2)) 0=v at *;generalize ixN N (p1,p2)=i at *;clear hW X Y h1 h2 h3 hA hc5 hr hp;go_enter Tryz.func148,Tryz.ntmps148;go_upto_region 1 with fail
 rw [HW.out];clear HW;go_quiet (fail);go_wp2_with fail;go_ret;exact ⟨rfl,As hbW _⟩
end
end Go.Proofs.YteihcodicfoiaaaGreat
