/-
  What is proved: the contract of the iterator of events.
-/
import Derived.Test.YteihcodicfoiaaaGreatEventsMf
namespace Go.Proofs.YteihcodicfoiaaaGreat
set_option maxRecDepth 100000
set_option maxHeartbeats 8000000
open Go Go.RowKit
attribute [local go_sem] Oper.semAt_some
structure Cm (n₀ p:Nat) (W W':World):Prop where
 os:W'.os=W.os
 tape:W'.tape=W.tape
 output:W'.output=W.output
 size:W.heap.size<=W'.heap.size
 block:∀ k,k<n₀->k≠p->W'.heap[k]?=W.heap[k]?
theorem Cm.refl (n₀ p:Nat) (W:World):Cm n₀ p W W:=⟨rfl,rfl,rfl,Nat.le_refl _,fun _ _ _=>rfl⟩
theorem Cm.trans {n₀ p:Nat} {A B C:World} (h:Cm n₀ p A B) (k:Cm n₀ p B C):Cm n₀ p A C :=
 ⟨k.os.trans h.os,k.tape.trans h.tape,k.output.trans h.output,Nat.le_trans h.size k.size,fun i hi hp=>(k.block i hi hp).trans (h.block i hi hp)⟩
theorem Cm.of_below {n₀ p:Nat} {A B:World} (h:Below n₀ A B):Cm n₀ p A B:=⟨h.os,h.tape,h.output,h.size,fun k hk _=>h.block k hk⟩
theorem Cm.bk {n₀ p:Nat} {A B:World} (h:Cm n₀ p A B) {q:Nat} {t:TypeId} {cs:Array Value} (hq:Bk A q t cs) (h1:q<n₀) (h2:q≠p):Bk B q t cs:=(h.block q h1 h2).trans hq
theorem Cm.row {n₀ p:Nat} {W W':World} (h:Cm n₀ p W W') {A:Option Addr} {xs:List Value} (hr:Ad W A xs) (hA:∀ a,A=some a->a.block<n₀/\a.block≠p):Ad W' A xs :=
 hr.of_heap (fun a ha=>h.block _ (hA a ha).1 (hA a ha).2) h.size
theorem Cm.grown {n₀ p:Nat} {A B:World} {row:Option Nat} (h:A.grownBy B row) (hn:n₀<=A.heap.size) (hr:∀ r,row=some r->n₀<=r\/r=p):Cm n₀ p A B :=
 ⟨h.os,h.tape,h.output,h.size,fun k hk hne=>h.block k (by omega) fun e=>by rcases hr k e.symm with h1 | h1<;>omega⟩
theorem note_loads {w:World} {A:Option Addr} {l:List Ab} (h:Ad w A (Aw l)) (h0:0<l.length) :
  ∃ b off,A=some ⟨b,off,none⟩/\b<w.heap.size/\∀ k,k<l.length->Hb 68 (.pointer (some ⟨b,off+k*19,none⟩)) w=.ok (.agg (l.getD k Bq).arr) w:=by
 have hl:(Aw l).length=l.length*19:=Ci _ 19 (fun _=>rfl) l
 obtain ⟨b,off,h1,h2,h3⟩:=h.some_ (by omega)
 refine ⟨b,off,h1,h2,fun k hk=>?_⟩
 refine loadN_at (cs:=(l.getD k Bq).arr.toList) (fun j u hu=>?_) (by kernel_rfl) Tryz.underlying68 (by kernel_rfl)
 have hj:j<19:=(List.getElem?_eq_some_iff.1 hu).1;have e:=Cw (fun n:Ab=>n.arr.toList) 19 (fun _=>rfl) (by omega) l k j hk hj
 rw [Aj _ _ hk] at hu;rw [Nat.add_assoc];exact h3 (k*19+j) u (e.trans hu)
def Ay (n:Ab):EvD:=⟨n.house,n.num,n⟩
def evEnc (L:List Ab) (m:Fin L.length):Array Value:=#[.agg (Ay (L[m.1]'m.2)).cells.toArray]
noncomputable def buildS (t:TypeId) (ps:Array (Nat×Value)):Sem Value:=Instr.build t ps
noncomputable def buildSN (t:TypeId) (ps:Array (Nat×Value)) (w:World):Result Value:=Sem.run Tryz.prog (Instr.build t ps) w
theorem builds_run (t:TypeId) (ps:Array (Nat×Value)) (w:World):Sem.run Tryz.prog (buildS t ps) w=buildSN t ps w:=rfl
theorem builds_at70 (ps:Array (Nat×Value)):Instr.build 70 ps=buildS 70 ps:=rfl
theorem build70 (n:Ab) (W:World):buildSN 70 #[(0,.agg #[.int .i64 n.house,.int .i64 n.num]),(1,.agg n.arr)] W=.ok (.agg (Ay n).cells.toArray) W:=by unfold buildSN;kernel_rfl
attribute [local go_sem ↓] Cd Bu Ek Dh builds_at70 builds_run
theorem events1_stops (n n₀ p B2 c:Nat) (L:List Ab) (A:Option Addr) (w:World) (hn0:n₀<=w.heap.size) (h2:Bk w B2 42 #[.slice A L.length c]) (hB2:B2<n₀/\B2≠p) (hrow:Ad w A (Aw L)) (hA:∀ a,A=some a->a.block<n₀/\a.block≠p) (hlen:L.length<=400) :
  SeqStopsK Fence.wide n Tryz.prog 137 #[.pointer (some ⟨B2,0,none⟩)] (evEnc L) (Cm n₀ p) (fun xs=>xs=List.finRange L.length) (fun pre=>pre <+: List.finRange L.length) L.length w:=by
 intro l J Jx W hW hJ hJx hY h0;have K2:=h2.keep hW;have hWn:n₀<=W.heap.size:=Nat.le_trans hn0 hW.size;have HR:=Hd (fun (X:World) (h:Cm n₀ p W X)=>(show Ad X A (Aw L) from h.row (hrow.below hW) hA))
 have hJ0:J [] W:=h0;have b2:=K2.cell 0;simp at b2;clear h2 hrow h0 hA;refine callsIn_of_wp Tryz.func137 rfl trivial ?_ rfl;simp only [Tryz.ntmps137,List.size_toArray,List.length_cons,List.length_nil,Nat.reduceAdd,Nat.reduceSub,Array.replicate_succ,Array.replicate_zero,List.push_toArray,List.append_toArray,List.nil_append,List.cons_append];refine wpIn_wide.2 ?_;go_wp2_with fail;refine (wpIn_wide (n:=n)).1 ?_;gi_loopw [7] (fun it wr=>∃ k:Nat,k<=L.length/\it=.int .i64 k/\J ((List.finRange L.length).take k) wr/\Cm n₀ p W wr) (fun it _=>L.length - (intOf it).toNat)
 case atStart=>exact ⟨0,Nat.zero_le _,rfl,by simpa using hJ0,Cm.refl _ _ _⟩
 case round =>
  clear hJ0 K2 b2;obtain ⟨k,hk,rfl,hJk,hkp⟩:=hrel
  by_cases hlt:k<L.length
  ·have hkI:(k:Int)<L.length:=by omega
   obtain ⟨b5,o5,hA5,hb5,hc5⟩:=note_loads (HR.out wr hkp) (by omega)
   have l0:=hc5 k hlt;have HX:Hid (evEnc L ⟨k,hlt⟩=#[.agg (Ay (L.getD k Bq)).cells.toArray]):=Hd (by unfold evEnc;rw [Aj _ _ hlt])
   have HTK:Hid ((List.finRange L.length).take (k+1)=(List.finRange L.length).take k ++ [⟨k,hlt⟩]):=by
    refine Hd ?_;rw [List.take_add_one,List.getElem?_eq_getElem (by simpa using hlt)]
    simp
   have hplen:((List.finRange L.length).take k).length<L.length:=by rw [List.length_take,List.length_finRange];omega
   rw [hA5];clear hc5 hA5;generalize (⟨k,hlt⟩:Fin L.length)=xk at *;generalize L.getD k Bq=m at *;obtain ⟨q,hq⟩:∃ q,wr.heap.size=q:=⟨_,rfl⟩;have s1:=Be (ty:=68) (cs:=m.arr) (Aa (w:=wr) (t:=68) (cs:=z68) hq) (by kernel_rfl) rfl (Eb _)
   have Y:Bk ((wr.alloc (.cells z68 68)).setRow q m.arr) q 68 m.arr:=Bj (Aa hq) _;have hB3:Below wr.heap.size wr ((wr.alloc (.cells z68 68)).setRow q m.arr):=Aq Ba (by omega) _
   have HK:=Hd (Ai hJk (Ai hkp (Ai hB3 Y)));have hszr:=hkp.size;clear hJk hkp hB3 Y;refine (wpIn_wide (n:=n)).2 ?_;go_upto_region 3 with fail
   clear s1 l0 hq;generalize (wr.alloc _).setRow _ _=w5 at *;refine (wpIn_wide (n:=n)).1 ?_;have KN:Hid (∀ x:Ext w5,Calls Tryz.prog 73 #[.agg m.arr] x.w fun e w'=>e=.returned (.agg #[.int .i64 m.house,.int .i64 m.num])/\Below x.w.heap.size x.w w'):=fun x=>Dx m x.w
   have ln:=fun x:Ext w5=>Ah m (HK.out.2.2.2.keep x.bel)
   have bl:=fun x:Ext w5=>build70 m x.w
   refine Jc 5 (by kernel_rfl) (by kernel_rfl) (by kernel_rfl) ?_
   simp only [List.take_succ_cons,List.take_zero,List.drop_succ_cons,List.drop_zero];repeat (go_big_quiet_step ((go_at_call 73;exact Cj (KN.out _))))
   refine wpQuiet_nil ?_;rintro _ ⟨y,rfl⟩;clear ln bl KN;have hb6:=y.bel;generalize y.w=w6 at hb6 ⊢;obtain ⟨hJk,hkp,hB3,Y⟩:=HK.out;have hb56:=hB3.trans (hb6.mono hB3.size);have hJ6:J ((List.finRange L.length).take k) w6:=hJ _ wr w6 none hJk (Hh hb56) (fun r e=>by cases e)
   have hk6:=hkp.trans (Cm.of_below (p:=p) (hb56.mono (show n₀<=wr.heap.size by omega)))
   obtain ⟨fn,tmps,assign,body,hy,hR⟩:=hY _ xk w6 hJ6 hplen;rw [HX.out] at hy;have HK6:=Hd hk6;clear hJk hkp hB3 Y HK hb6 hJ6 hY hb56 hk6;gi_wp2;refine ⟨fun h=>(by simp [Fence.wide] at h),hR.mono ?_⟩
   rintro e W7 (⟨rfl,hJ7,hk7⟩ | ⟨rfl,hJx7⟩)
   ·have HE:=Hd (HK6.out.trans hk7);rw [<- HTK.out] at hJ7;clear hk7 HK6;gi_wp2;go_wp2_with fail;go_roundw
    case rel=>exact ⟨k+1,by omega,by go_num,hJ7,HE.out⟩
    case measure=>simp [intOf];omega
   ·rw [<- HTK.out] at hJx7;clear HK6;gi_wp2;go_wp2_with fail;refine bodyPost_ret (results_none rfl _ _ _) rfl ?_;exact ⟨⟨_,rfl⟩,.inr ⟨_,List.take_prefix _ _,hJx7⟩⟩
  ·obtain rfl:k=L.length:=by omega
   have htk:(List.finRange L.length).take L.length=List.finRange L.length:=List.take_of_length_le (by rw [List.length_finRange];exact Nat.le_refl _)
   rw [htk] at hJk;gi_wp2;go_end0;exact ⟨⟨_,rfl⟩,.inl ⟨_,rfl,hJk⟩⟩
end Go.Proofs.YteihcodicfoiaaaGreat
