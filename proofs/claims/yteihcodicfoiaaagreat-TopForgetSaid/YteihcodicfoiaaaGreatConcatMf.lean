/-
  What is proved: the contracts of slices.Grow and slices.Concat at events.
-/
import Derived.Test.YteihcodicfoiaaaGreatRegisterMf
import Derived.Test.YteihcodicfoiaaaGreatNotchAMf
namespace Go.Proofs.YteihcodicfoiaaaGreat
set_option maxRecDepth 100000
set_option maxHeartbeats 4000000
open Go Go.RowKit
theorem Ht {P:Program} {w:World} {t ty e:TypeId} {i:TypeInfo} (ht:P.underlying t=some (.slice e)) (hi:P.info? e=some i) {base size n c c':Nat} {A:Option Addr} {xs:List Value} (h:w.ownsRow base e size (.slice A n c) n xs) :
  (Builtin.append_ #[t,t] ty #[.slice A n c,.slice none 0 c']).run P w=.ok (.slice A n c) w:=by
 rcases h.2 with ⟨hv,h0⟩ | ⟨g,cap,cur,hv,hbg,hg,hnc,hcm,hcs,htake⟩
 ·injection hv with h1 h2 h3
  subst h1;subst h2;subst h3;simp [Builtin.append_,run_underlying ht,sizeOf,typeInfo,hi,Builtin.lenOf,Builtin.firstCells,loadCells,loadCellsFrom]
 ·injection hv with h1 h2 h3
  subst h1;subst h3;simp [Builtin.append_,run_underlying ht,sizeOf,typeInfo,hi,Builtin.lenOf,Builtin.firstCells,loadCells,loadCellsFrom,hnc];rfl
theorem wpList_append_ev {ops:Array Oper} {rest:List Oper} {o:Oper} {a:Act} {w:World} {Q:Exit->Act->World->Prop} (hgd:o.guard=none) (s x:Operand) (ho:o.op=.call { callee:=.builtin .append,args:=#[s,x],argTypes:=#[46,46] })
  (base:Nat) (v:Value) (n:Nat) (xs:List Value) (hs:a.eval s=v) (hown:w.ownsRow base 70 21 v n xs) (A:Option Addr) (c:Nat) (l:List EvD) (hx:a.eval x=.slice A l.length c) (hrow:Ad w A (Ak l))
  (hb:n+l.length<=1000) (hbase:base<=w.heap.size) (h:∀ v' w',w'.ownsRow base 70 21 v' (n+l.length) (xs ++ Ak l)->w.grownBy w' v.ownBlock->wpList Tryz.prog ops Q rest (a.put o.dst v') w'):wpList Tryz.prog ops Q (o :: rest) a w:=by
 obtain ⟨i0,hi0,hz0,hz1,hz2⟩:=info_parts info70e;have hl:(Ak l).length=l.length*21:=Ci _ 21 (fun _=>rfl) l
 cases A with
 | none =>
  have h0:l=[]:=by
   cases l with
   | nil=>rfl
   | cons y l =>
    obtain ⟨b,off,e,_⟩:=hrow (by rw [hl];simp)
    cases e
  subst h0;obtain ⟨A',c',rfl,_,_,_⟩:=Au hown;have hr:=Ht (ty:=o.type) (c':=c) Tryz.underlying46 hi0 hown;refine wpList_plain hgd fun K hK=>?_
  unfold Oper.wp execOp;simp only [ho,resolve,invoke,builtin,Sem.run_bind,Sem.run_pure,Result.andThen_ok,List.map_toArray,List.map_cons,List.map_nil,hs,hx,List.length_nil,hr];exact hK _ _ (h _ _ (by simpa [Ak] using hown) (World.grownBy_refl _ _))
 | some ad =>
  refine wpList_append_own w hgd s x 46 ho base 70 i0 _ 21 184 Tryz.underlying46 hi0 hz0 hz1 hz2 rfl (by decide) v n xs hs hown ad l.length c (Ak l) hx hl (fun j u hj=>?_) (fun u hu=>?_) (by unfold maxLen;omega) (by omega) hbase (fun v' w' h1 h2 _=>h v' w' h1 h2)
  ·have h0:0<(Ak l).length:=by have:=(List.getElem?_eq_some_iff.1 hj).1;omega
   obtain ⟨b,off,e,_,hc⟩:=hrow h0;injection e with e
   subst e;rw [De];exact hc j u hj
  ·obtain ⟨y,_,hy⟩:=List.mem_flatMap.1 hu;exact Jr y u hy
theorem zero_ev (n:Nat):(Builtin.zeroCells (Value.agg z70).cells n).size=n*21:=by simp [Builtin.zeroCells,Value.cells]
theorem growev_some (n:Nat) (h0:0<n) (hn:n<=1000) (w:World) :
  Calls Tryz.prog 114 #[.slice none 0 0,.int .i64 n] w fun e w'=>(∃ v,e=.returned v/\w'.ownsRow w.heap.size 70 21 v 0 [])/\Below w.heap.size w w':=by
 obtain ⟨i0,hi0,hz0,hz1,hz2⟩:=info_parts info70e;have hrz:∀ ty,(Builtin.append_ #[46,3] ty #[.slice none 0 0,.int .i64 (n:Int)]).run Tryz.prog w =
   .ok (.slice (some ⟨w.heap.size,0,none⟩) n (grownCap w n 0 70)) (w.drew.alloc (.cells (Builtin.zeroCells (Value.agg z70).cells n ++ Builtin.zeroCells (Value.agg z70).cells (grownCap w n 0 70 - n)) 70)):=fun ty =>
  Lib.run_append_nil_zeros w 46 3 ty 70 i0 (.agg z70) .i64 .i64 Tryz.underlying46 Tryz.underlying3 hi0 hz0 n h0 (by rw [hz1];decide) (by omega) (by rw [hz2];omega)
 have hG:n<=grownCap w n 0 70:=grownCap_ge w _ _ _;have hG2:grownCap w n 0 70<=maxLen:=grownCap_le_maxLen w n 0 70 (by unfold maxLen;omega)
 generalize grownCap w n 0 70=G at *;have hG63:G<=9223372036854775807:=by unfold maxLen at hG2;omega
 have h1:¬ ((n:Int)<0):=by omega
 have h4:((n:Int) > 0):=by omega
 have hown:World.ownsRow (w.drew.alloc (.cells (Builtin.zeroCells (Value.agg z70).cells n ++ Builtin.zeroCells (Value.agg z70).cells (G - n)) 70)) w.heap.size 70 21 (.slice (some ⟨w.heap.size,0,none⟩) 0 G) 0 []:=by
  refine ⟨rfl,.inr ⟨w.heap.size,G,_,rfl,Nat.le_refl _,heap_alloc_new w.drew _,Nat.zero_le _,hG2,?_,rfl⟩⟩;rw [Array.size_append,zero_ev,zero_ev];omega
 have hB:Below w.heap.size w (w.drew.alloc (.cells (Builtin.zeroCells (Value.agg z70).cells n ++ Builtin.zeroCells (Value.agg z70).cells (G - n)) 70)):=((Below.refl _ _).drew).alloc Le _;generalize Builtin.zeroCells (Value.agg z70).cells n ++ Builtin.zeroCells (Value.agg z70).cells (G - n)=zc at *;go_enter Tryz.func114,Tryz.ntmps114;go_wp2_with (at_builtin;refine Lib.wpList_append_run _ rfl _ _ _ _ rfl _ _ rfl rfl _ _ (hrz _) ?_)
 all_goals (go_ret;exact ⟨⟨_,rfl,hown⟩,hB⟩)
theorem growev_any (n:Nat) (hn:n<=1000) (w:World) :
  Calls Tryz.prog 114 #[.slice none 0 0,.int .i64 n] w fun e w'=>(∃ v,e=.returned v/\w'.ownsRow w.heap.size 70 21 v 0 [])/\Below w.heap.size w w':=by
 by_cases h0:0<n
 ·exact growev_some n h0 hn w
 ·obtain rfl:n=0:=by omega
  go_enter Tryz.func114,Tryz.ntmps114;go_wp2_with fail;go_ret;exact ⟨⟨_,rfl,World.ownsRow_nil _ _ _ _⟩,Below.refl _ _⟩
theorem Concat_any (g c c1 c2:Nat) (A1 A2:Option Addr) (H E:List EvD) (w:World) (hg:Bk w g 46 #[.slice A1 H.length c1,.slice A2 E.length c2]) (h1:Ad w A1 (Ak H)) (h2:Ad w A2 (Ak E)) (hH:H.length<=8) (hE:E.length<=400) :
  Calls Tryz.prog 70 #[.slice (some ⟨g,0,none⟩) 2 c] w fun e w'=>(∃ v,e=.returned v/\w'.ownsRow w.heap.size 70 21 v (H.length+E.length) (Ak (H ++ E)))/\Below w.heap.size w w':=by
 have k0:=hg.cell 0;have k1:=hg.cell 1;simp at k0 k1;have HE:=Hd (Ai hg (Ai h1 h2));have hw1:=IntWalk.i64_in ((H.length:Int)+E.length) (by omega)
 have HGR:=Hd (fun X=>growev_any (H.length+E.length) (by omega) X)
 have HA:Hid (Ak (H ++ E)=Ak H ++ Ak E):=Hd (by simp [Ak])
 clear hg h1 h2;go_enter Tryz.func70,Tryz.ntmps70;go_wp2;go_loopw [3,11] (fun v i wr=>w=wr/\((v=.int .i64 0/\i=.int .i64 0)\/(v=.int .i64 H.length/\i=.int .i64 1)\/(v=.int .i64 (H.length+E.length:Nat)/\i=.int .i64 2))) (fun _ i _=>2 - (intOf i).toNat)
 case atStart=>exact ⟨rfl,.inl ⟨rfl,rfl⟩⟩
 case round =>
  obtain ⟨rfl,⟨rfl,rfl⟩ | ⟨rfl,rfl⟩ | ⟨rfl,rfl⟩⟩:=hrel
  ·go_wp2;go_roundw
   case rel=>simp
   case measure=>decide
  ·go_wp2;go_roundw
   case rel=>exact ⟨trivial,.inr (.inr ⟨by go_num,rfl⟩)⟩
   case measure=>decide
  ·clear hw1;go_wp2_with (go_at_call 114;refine (HGR.out _).mono ?_;rintro e w1 ⟨⟨v0,rfl,hown⟩,hB⟩);go_loopw [6,27] (fun v i wr2=>Below w.heap.size w wr2/\((i=.int .i64 0/\wr2.ownsRow w.heap.size 70 21 v 0 [])\/(i=.int .i64 1/\wr2.ownsRow w.heap.size 70 21 v H.length (Ak H))\/(i=.int .i64 2/\wr2.ownsRow w.heap.size 70 21 v (H.length+E.length) (Ak H ++ Ak E)))) (fun _ i _=>2 - (intOf i).toNat)
   case atStart=>exact ⟨hB,.inl ⟨rfl,hown⟩⟩
   case round =>
    clear hown hB;obtain ⟨hB,⟨rfl,hown⟩ | ⟨rfl,hown⟩ | ⟨rfl,hown⟩⟩:=hrel
    ·have m0:=(HE.out.1.keep hB).cell 0;simp at m0;go_wp2_with (at_builtin;refine wpList_append_ev rfl _ _ rfl w.heap.size _ 0 [] rfl hown A1 c1 H rfl (HE.out.2.1.below hB) (by omega) hB.size ?_;intro v' w2 hown' hgr)
     have hB2:=hB.grown hgr hB.size (fun g hg'=>(hown.lt g hg').1)
     clear hgr hown hB;go_wp2;go_roundw
     case rel=>exact ⟨hB2,.inr (.inl ⟨rfl,by simpa using hown'⟩)⟩
     case measure=>decide
    ·have m1:=(HE.out.1.keep hB).cell 1;simp at m1;go_wp2_with (at_builtin;refine wpList_append_ev rfl _ _ rfl w.heap.size _ H.length (Ak H) rfl hown A2 c2 E rfl (HE.out.2.2.below hB) (by omega) hB.size ?_;intro v' w2 hown' hgr)
     have hB2:=hB.grown hgr hB.size (fun g hg'=>(hown.lt g hg').1)
     clear hgr hown hB;go_wp2;go_roundw
     case rel=>exact ⟨hB2,.inr (.inr ⟨rfl,hown'⟩)⟩
     case measure=>decide
    ·go_wp2;go_ret;exact ⟨⟨_,rfl,by rw [HA.out];exact hown⟩,hB⟩
end Go.Proofs.YteihcodicfoiaaaGreat
