/-
  What is proved: the contracts of slices.Equal at integers, of same and of what it calls.
-/
import Derived.Test.YteihcodicfoiaaaGreat21Mf
import Derived.Test.YteihcodicfoiaaaGreatOverMf
import Derived.ChangeKeysEq
namespace Go.Proofs.YteihcodicfoiaaaGreat
set_option maxRecDepth 100000
set_option maxHeartbeats 8000000
open Go Go.RowKit
theorem part3 (xs:Array Value) (i:Nat) (x:Int) (w:World) (h:xs[i]?=some (.int .i64 x)):(part 3 xs (i*1)).run Tryz.prog w=.ok (.int .i64 x) w:=by
 simp [part,go_sem,h]
theorem eqItems3 (d:Nat) (xs ys:List Int) (w:World):∀ (is:List Nat),(∀ i∈is,i<xs.length/\i<ys.length)->
  (Op.eqItems (d+1) 3 1 (Ac xs).toArray (Ac ys).toArray is).run Tryz.prog w=.ok (is.all fun i=>xs.getD i 0 == ys.getD i 0) w
 | [],_=>by simp [Op.eqItems]
 | i :: is,h=>by
  obtain ⟨h1,h2⟩:=h i (by simp)
  have e1:(Ac xs).toArray[i]?=some (.int .i64 (xs.getD i 0)):=by simp [Ac,List.getD_eq_getElem?_getD,h1]
  have e2:(Ac ys).toArray[i]?=some (.int .i64 (ys.getD i 0)):=by simp [Ac,List.getD_eq_getElem?_getD,h2]
  have ih:=eqItems3 d xs ys w is (fun j hj=>h j (by simp [hj]))
  have eq:(Op.equalIn (d+1) 3 (.int .i64 (xs.getD i 0)) (.int .i64 (ys.getD i 0))).run Tryz.prog w=.ok (xs.getD i 0 == ys.getD i 0) w:=by
   simp [Op.equalIn,Sem.run_bind,run_underlying Tryz.underlying3,Result.andThen,Sem.run_pure]
  simp only [Op.eqItems,Sem.run_bind,part3 _ _ _ _ e1,part3 _ _ _ _ e2,eq,Result.andThen];cases hb:(xs.getD i 0 == ys.getD i 0) with
  | true =>
   rw [List.all_cons,hb];simp only [Bool.not_true,Bool.false_eq_true,if_false,Bool.true_and];exact ih
  | false =>
   rw [List.all_cons,hb];simp only [Bool.not_false,if_true,Bool.false_and,Sem.run_pure]
theorem all_eq_list {xs ys:List Int} (h:xs.length=ys.length):((List.range xs.length).all fun i=>xs.getD i 0 == ys.getD i 0)=decide (xs=ys):=by
 rw [Bool.eq_iff_iff,List.all_eq_true,decide_eq_true_eq];constructor
 ·intro hall;refine List.ext_getElem h fun i h1 h2=>?_
  have:=hall i (List.mem_range.2 h1)
  rwa [Aj _ _ h1,Aj _ _ h2,beq_iff_eq] at this
 ·rintro rfl i _;simp
theorem eq290 (xs ys:List Int) (hx:xs.length=14) (hy:ys.length=14) (w:World) :
  (binOp .eql 290 (.agg (Ac xs).toArray) (.agg (Ac ys).toArray)).run Tryz.prog w=.ok (.bool (decide (xs=ys))) w:=by
 obtain ⟨i0,hi0,hz0,hz1,hz2⟩:=info_parts (show (Tryz.prog.info? 3).map (fun i=>(i.zero,i.size,i.bytes))=some (some (.int .i64 0),1,8) by kernel_rfl)
 have h1:=run_equalIn_array (P:=Tryz.prog) (w:=w) 9999 (Ac xs).toArray (Ac ys).toArray Tryz.underlying290 hi0;have hc:Tryz.prog.cellsOf 3=1:=by kernel_rfl
 rw [hc] at h1;have h2:=eqItems3 9998 xs ys w (List.range 14) (fun i hi=>by have:=List.mem_range.1 hi;omega)
 have h3:(Op.equalIn 10000 290 (.agg (Ac xs).toArray) (.agg (Ac ys).toArray)).run Tryz.prog w=.ok (decide (xs=ys)) w:=by
  rw [<- all_eq_list (hx.trans hy.symm),hx];exact h1.trans h2
 simp only [binOp,Op.equal,Op.maxDepth,Sem.run_bind,h3,Result.andThen,Sem.run_pure]
theorem equal_any (A B:Option Addr) (c d:Nat) (l m:List Int) (w:World) (hL:Ad w A (Ac l)) (hM:Ad w B (Ac m)) (hn:l.length<=9223372036854775807) :
  Calls Tryz.prog 164 #[.slice A l.length c,.slice B m.length d] w fun e w'=>e=.returned (.bool (decide (l=m)))/\Below w.heap.size w w':=by
 have HL:=Hd hL;have HM:=Hd hM;have hB0:=Below.refl w.heap.size w;clear hL hM
 by_cases hlen:l.length=m.length
 ·have hne:((l.length:Int) != m.length)=false:=by simp [hlen]
  have h1:l.length<=m.length:=by omega
  have HLEN:=Hd hlen;clear hlen;go_enter Tryz.func164,Tryz.ntmps164;go_wp2_with fail;go_loopw [13] (fun i wr=>∃ k:Nat,k<=l.length/\i=.int .i64 k/\Below w.heap.size w wr/\Hid (∀ j,j<k->l.getD j 0=m.getD j 0)) (fun i _=>l.length - (intOf i).toNat)
  case atStart=>exact ⟨0,Nat.zero_le _,rfl,hB0,fun j h=>absurd h (by omega)⟩
  case round =>
   obtain ⟨k,hk,rfl,hB,hall⟩:=hrel;clear hB0
   by_cases hlt:k<l.length
   ·have hkI:(k:Int)<l.length:=by omega
    have hkM:(k:Int)<m.length:=by omega
    obtain ⟨b1,o1,hA1,hb1,hc1⟩:=Jb (HL.out.below hB) (by omega)
    obtain ⟨b2,o2,hA2,hb2,hc2⟩:=Jb (HM.out.below hB) (by omega)
    have c1:=hc1 k hlt;have c2:=hc2 k (by omega)
    rw [hA1,hA2]
    by_cases hxy:l.getD k 0=m.getD k 0
    ·have HN:Hid (∀ j,j<k+1->l.getD j 0=m.getD j 0):=fun j hj=>by
      rcases Nat.lt_or_ge j k with g | g
      ·exact hall.out j g
      ·obtain rfl:j=k:=by omega
       exact hxy
     rw [hxy] at c1;clear hA1 hA2 hc1 hc2 hall hxy;generalize m.getD k 0=y at *;go_upto_region 6 with fail
     go_quiet (fail);go_wp2_with fail;go_roundw
     case rel=>exact ⟨k+1,by omega,by go_num,As hB _,HN⟩
     case measure=>simp [intOf];omega
    ·have HQ:Hid (decide (l=m)=false):=by
      refine Hd (decide_eq_false ?_);rintro rfl;exact hxy rfl
     have hxyb:(l.getD k 0 != m.getD k 0)=true:=by simpa using hxy
     clear hA1 hA2 hc1 hc2 hall hxy;generalize l.getD k 0=x at *;generalize m.getD k 0=y at *;go_upto_region 6 with fail
     go_quiet (fail);go_wp2_with fail;go_ret;exact ⟨Af HQ.out.symm,As hB _⟩
   ·obtain rfl:k=l.length:=by omega
    have HQ:Hid (decide (l=m)=true):=by
     refine Hd (decide_eq_true ?_);refine List.ext_getElem HLEN.out fun i h1 h2=>?_
     have:=hall.out i h1
     rwa [Aj _ _ h1,Aj _ _ h2] at this
    clear hall;go_wp2_with fail;go_ret;exact ⟨Af HQ.out.symm,hB⟩
 ·have hne:((l.length:Int) != m.length)=true:=by simp;omega
  have HQ:Hid (decide (l=m)=false):=by
   refine Hd (decide_eq_false ?_);rintro rfl;exact hlen rfl
  clear hlen;go_enter Tryz.func164,Tryz.ntmps164;go_wp2_with fail;go_ret;exact ⟨Af HQ.out.symm,hB0⟩
def numsL (n:Ab):List Int:=[n.house,n.num,n.clock,n.day,n.kind,n.stone,n.heap,n.turns,n.a,n.b,n.ring,n.rh,n.rn,n.fix]
attribute [local go_sem ↓] Cd Bu Ek store_at290 Dh
theorem same1_any (n:Ab) (w:World):Calls Tryz.prog 163 #[.agg n.arr] w fun e w'=>e=.returned (.agg #[.int .i64 n.house,.int .i64 n.num,.int .i64 n.clock,.int .i64 n.day,.int .i64 n.kind,.int .i64 n.stone,.int .i64 n.heap,.int .i64 n.turns,.int .i64 n.a,.int .i64 n.b,.int .i64 n.ring,.int .i64 n.rh,.int .i64 n.rn,.int .i64 n.fix])/\Below w.heap.size w w':=by
 obtain ⟨W,hW⟩:∃ W,(w.alloc (.cells n.arr 68)).alloc (.cells #[.int .i64 0,.int .i64 0,.int .i64 0,.int .i64 0,.int .i64 0,.int .i64 0,.int .i64 0,.int .i64 0,.int .i64 0,.int .i64 0,.int .i64 0,.int .i64 0,.int .i64 0,.int .i64 0] 290)=W:=⟨_,rfl⟩;have hbW:Below w.heap.size w W:=by rw [<- hW];exact Ba.alloc (by simp) _
 have X:=(show Bk W w.heap.size 68 n.arr by rw [<- hW];exact (Aa rfl).alloc _)
 have Y:=(show Bk W (w.heap.size+1) 290 #[.int .i64 0,.int .i64 0,.int .i64 0,.int .i64 0,.int .i64 0,.int .i64 0,.int .i64 0,.int .i64 0,.int .i64 0,.int .i64 0,.int .i64 0,.int .i64 0,.int .i64 0,.int .i64 0] by rw [<- hW];exact Aa (by simp))
 have x0:=X.cell 0;have x1:=X.cell 1;have x2:=X.cell 2;have x3:=X.cell 3;have x4:=X.cell 4;have x5:=X.cell 5;have x6:=X.cell 6;have x7:=X.cell 7;have x12:=X.cell 12;have x13:=X.cell 13;have x14:=X.cell 14;have x16:=X.cell 16;have x17:=X.cell 17;have x18:=X.cell 18;simp [Ab.arr] at x0 x1 x2 x3 x4 x5 x6 x7 x12 x13 x14 x16 x17 x18;have s1:=Be (ty:=290) (cs:=#[.int .i64 n.house,.int .i64 n.num,.int .i64 n.clock,.int .i64 n.day,.int .i64 n.kind,.int .i64 n.stone,.int .i64 n.heap,.int .i64 n.turns,.int .i64 n.a,.int .i64 n.b,.int .i64 n.ring,.int .i64 n.rh,.int .i64 n.rn,.int .i64 n.fix]) Y (by kernel_rfl) rfl (by simp [Value.oneCell'])
 have hR:=Bj Y #[.int .i64 n.house,.int .i64 n.num,.int .i64 n.clock,.int .i64 n.day,.int .i64 n.kind,.int .i64 n.stone,.int .i64 n.heap,.int .i64 n.turns,.int .i64 n.a,.int .i64 n.b,.int .i64 n.ring,.int .i64 n.rh,.int .i64 n.rn,.int .i64 n.fix];have hB:=Aq hbW (g:=w.heap.size+1) (by omega) #[.int .i64 n.house,.int .i64 n.num,.int .i64 n.clock,.int .i64 n.day,.int .i64 n.kind,.int .i64 n.stone,.int .i64 n.heap,.int .i64 n.turns,.int .i64 n.a,.int .i64 n.b,.int .i64 n.ring,.int .i64 n.rh,.int .i64 n.rn,.int .i64 n.fix]
 have HE:=Hd (Ai hR hB);have HW:=Hd hW;clear hW X Y hR hB;go_enter Tryz.func163,Tryz.ntmps163;go_upto_region 1 with fail
 rw [HW.out];clear HW;go_wp2_with fail;refine bodyPost_ret (v:=.agg #[.int .i64 n.house,.int .i64 n.num,.int .i64 n.clock,.int .i64 n.day,.int .i64 n.kind,.int .i64 n.stone,.int .i64 n.heap,.int .i64 n.turns,.int .i64 n.a,.int .i64 n.b,.int .i64 n.ring,.int .i64 n.rh,.int .i64 n.rn,.int .i64 n.fix]) (results_cell_row rfl _ _ _ 290 _ (0,0) _ rfl HE.out.1 Tryz.underlying290 rfl (by kernel_rfl)) rfl ?_
 exact ⟨rfl,HE.out.2⟩
theorem eq29 (W:World) (a b c d:Int):(binOp .eql 29 (.agg #[.int .i64 a,.int .i64 b]) (.agg #[.int .i64 c,.int .i64 d])).run Tryz.prog W=.ok (.bool (a == c && b == d)) W:=by
 simp [go_sem,Tryz.underlying29]
 by_cases h1:a=c<;>by_cases h2:b=d<;>simp [*]
def Fy (a b:Ab):Bool:=decide (numsL a=numsL b) && ((a.hlo == b.hlo && a.hhi == b.hhi) && ((a.dlo == b.dlo && a.dhi == b.dhi) && decide (a.strokes=b.strokes)))
theorem same_any (a b:Ab) (w:World) (ha:a.At w) (hb:b.At w) (hn:a.strokes.length<=9223372036854775807) :
  Calls Tryz.prog 117 #[.agg a.arr,.agg b.arr] w fun e w'=>e=.returned (.bool (Fy a b))/\Below w.heap.size w w':=by
 obtain ⟨W,hW⟩:∃ W,(w.alloc (.cells a.arr 68)).alloc (.cells b.arr 68)=W:=⟨_,rfl⟩;have hbW:Below w.heap.size w W:=by rw [<- hW];exact Ba.alloc (by simp) _
 have X:=(show Bk W w.heap.size 68 a.arr by rw [<- hW];exact (Aa rfl).alloc _)
 have Y:=(show Bk W (w.heap.size+1) 68 b.arr by rw [<- hW];exact Aa (by simp))
 have H1:=Hd (fun x:Ext W=>same1_any a x.w)
 have H2:=Hd (fun x:Ext W=>same1_any b x.w)
 have HE:=Hd (fun x:Ext W=>equal_any a.sA b.sA a.sc b.sc a.strokes b.strokes x.w ((Ad.below ha hbW).below x.bel) ((Ad.below hb hbW).below x.bel) hn)
 have l0:=fun x:Ext W=>Ah a (X.keep x.bel)
 have l1:=fun x:Ext W=>Ah b (Y.keep x.bel)
 have x8:=X.cell 8;have x9:=X.cell 9;have x10:=X.cell 10;have x11:=X.cell 11;have x15:=X.cell 15;have y8:=Y.cell 8;have y9:=Y.cell 9;have y10:=Y.cell 10;have y11:=Y.cell 11;have y15:=Y.cell 15;simp [Ab.arr] at x8 x9 x10 x11 x15 y8 y9 y10 y11 y15;replace x8:=fun x:Ext W=>Ag x.bel x8
 replace x9:=fun x:Ext W=>Ag x.bel x9
 replace x10:=fun x:Ext W=>Ag x.bel x10
 replace x11:=fun x:Ext W=>Ag x.bel x11
 replace x15:=fun x:Ext W=>Ag x.bel x15
 replace y8:=fun x:Ext W=>Ag x.bel y8
 replace y9:=fun x:Ext W=>Ag x.bel y9
 replace y10:=fun x:Ext W=>Ag x.bel y10
 replace y11:=fun x:Ext W=>Ag x.bel y11
 replace y15:=fun x:Ext W=>Ag x.bel y15
 have h290:=fun W:World=>show (binOp .eql 290 (.agg #[.int .i64 a.house,.int .i64 a.num,.int .i64 a.clock,.int .i64 a.day,.int .i64 a.kind,.int .i64 a.stone,.int .i64 a.heap,.int .i64 a.turns,.int .i64 a.a,.int .i64 a.b,.int .i64 a.ring,.int .i64 a.rh,.int .i64 a.rn,.int .i64 a.fix]) (.agg #[.int .i64 b.house,.int .i64 b.num,.int .i64 b.clock,.int .i64 b.day,.int .i64 b.kind,.int .i64 b.stone,.int .i64 b.heap,.int .i64 b.turns,.int .i64 b.a,.int .i64 b.b,.int .i64 b.ring,.int .i64 b.rh,.int .i64 b.rn,.int .i64 b.fix])).run Tryz.prog W=.ok (.bool (decide (numsL a=numsL b))) W from eq290 (numsL a) (numsL b) rfl rfl W
 have hhd:=fun W:World=>eq29 W a.hlo a.hhi b.hlo b.hhi
 have hdf:=fun W:World=>eq29 W a.dlo a.dhi b.dlo b.dhi
 have HV:Hid (Fy a b=(decide (numsL a=numsL b) && ((a.hlo == b.hlo && a.hhi == b.hhi) && ((a.dlo == b.dlo && a.dhi == b.dhi) && decide (a.strokes=b.strokes))))):=Hd rfl;have HW:=Hd hW;clear hW X Y ha hb;cases q1:decide (numsL a=numsL b) with
 | false =>
  rw [q1] at h290 HV;have HQ:Hid (Fy a b=false):=by rw [HV.out];exact Hd rfl
  clear q1 HV;go_enter Tryz.func117,Tryz.ntmps117;go_upto_region 1 with fail
  rw [HW.out];clear HW;go_upto_region 2 with fail
  refine Bg (by kernel_rfl) (by kernel_rfl) ?_
  repeat (go_big_quiet_step (first | (go_at_call 163;(first | with_reducible exact Cj (H1.out _) | with_reducible exact Cj (H2.out _))) | (go_at_call 164;exact Cj (HE.out _))))
  refine wpQuiet_nil ?_;rintro _ ⟨y,rfl⟩;clear H1 H2 HE l0 l1 x8 x9 x10 x11 x15 y8 y9 y10 y11 y15 h290 hhd hdf;have hb2:=y.bel;generalize y.w=w2 at hb2 ⊢;go_wp2_with fail;go_ret;exact ⟨Af HQ.out.symm,hbW.trans (hb2.mono hbW.size)⟩
 | true =>
  rw [q1] at h290 HV;clear q1;cases q2:(a.hlo == b.hlo && a.hhi == b.hhi) with
  | false =>
   rw [q2] at hhd HV;have HQ:Hid (Fy a b=false):=by rw [HV.out];exact Hd rfl
   clear q2 HV;go_enter Tryz.func117,Tryz.ntmps117;go_upto_region 1 with fail
   rw [HW.out];clear HW;go_upto_region 2 with fail
   refine Bg (by kernel_rfl) (by kernel_rfl) ?_
   repeat (go_big_quiet_step (first | (go_at_call 163;(first | with_reducible exact Cj (H1.out _) | with_reducible exact Cj (H2.out _))) | (go_at_call 164;exact Cj (HE.out _))))
   refine wpQuiet_nil ?_;rintro _ ⟨y,rfl⟩;clear H1 H2 HE l0 l1 x8 x9 x10 x11 x15 y8 y9 y10 y11 y15 h290 hhd hdf;have hb2:=y.bel;generalize y.w=w2 at hb2 ⊢;go_wp2_with fail;go_ret;exact ⟨Af HQ.out.symm,hbW.trans (hb2.mono hbW.size)⟩
  | true =>
   rw [q2] at hhd HV;clear q2;cases q3:(a.dlo == b.dlo && a.dhi == b.dhi) with
   | false =>
    rw [q3] at hdf HV;have HQ:Hid (Fy a b=false):=by rw [HV.out];exact Hd rfl
    clear q3 HV;go_enter Tryz.func117,Tryz.ntmps117;go_upto_region 1 with fail
    rw [HW.out];clear HW;go_upto_region 2 with fail
    refine Bg (by kernel_rfl) (by kernel_rfl) ?_
    repeat (go_big_quiet_step (first | (go_at_call 163;(first | with_reducible exact Cj (H1.out _) | with_reducible exact Cj (H2.out _))) | (go_at_call 164;exact Cj (HE.out _))))
    refine wpQuiet_nil ?_;rintro _ ⟨y,rfl⟩;clear H1 H2 HE l0 l1 x8 x9 x10 x11 x15 y8 y9 y10 y11 y15 h290 hhd hdf;have hb2:=y.bel;generalize y.w=w2 at hb2 ⊢;go_wp2_with fail;go_ret;exact ⟨Af HQ.out.symm,hbW.trans (hb2.mono hbW.size)⟩
   | true =>
    rw [q3] at hdf HV;have HQ:Hid (Fy a b=decide (a.strokes=b.strokes)):=by rw [HV.out];exact Hd rfl
    clear q3 HV;go_enter Tryz.func117,Tryz.ntmps117;go_upto_region 1 with fail
    rw [HW.out];clear HW;go_upto_region 2 with fail
    refine Bg (by kernel_rfl) (by kernel_rfl) ?_
    repeat (go_big_quiet_step (first | (go_at_call 163;(first | with_reducible exact Cj (H1.out _) | with_reducible exact Cj (H2.out _))) | (go_at_call 164;exact Cj (HE.out _))))
    refine wpQuiet_nil ?_;rintro _ ⟨y,rfl⟩;clear H1 H2 HE l0 l1 x8 x9 x10 x11 x15 y8 y9 y10 y11 y15 h290 hhd hdf;have hb2:=y.bel;generalize y.w=w2 at hb2 ⊢;go_wp2_with fail;go_ret;exact ⟨Af HQ.out.symm,hbW.trans (hb2.mono hbW.size)⟩
end Go.Proofs.YteihcodicfoiaaaGreat
