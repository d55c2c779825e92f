/-
  What is proved: the contract of relax.
-/
import Derived.Test.YteihcodicfoiaaaGreat50Mf
import Derived.Test.YteihcodicfoiaaaGreatKeepMf
import Derived.Deep.RegionHeld3
import Derived.WalkMore
import Derived.BigRegion
namespace Go.Proofs.YteihcodicfoiaaaGreat
set_option maxRecDepth 100000
set_option maxHeartbeats 8000000
open Go Go.RowKit
def RlxP (N:List (Int×Int)) (turned:Bool) (L:List Ao) (w:World) (e:Ending) (V:World):Prop :=
 Below w.heap.size w V/\((∃ u r,relF N turned L=some u/\e=.returned (.tuple #[.pointer (some ⟨r,0,none⟩),.slice none 0 0])/\RchAt V r N u.d)\/(relF N turned L=none/\∃ g n c:Nat,1<=n/\e=.returned (.tuple #[.pointer none,.slice (some ⟨g,0,none⟩) n c])))
theorem bw_alloc {w X:World} (h:Below w.heap.size w X) (o:Obj):Below w.heap.size w (X.alloc o):=h.alloc h.size o
theorem bw_drew {w X:World} (h:Below w.heap.size w X):Below w.heap.size w X.drew:=h.drew
theorem Bc {w X Y:World} (h:Below w.heap.size w X) (k:Below X.heap.size X Y):Below w.heap.size w Y:=h.trans (k.mono h.size)
structure RlxA (w:World) (n gm:Nat) (LA:Option Addr) (l lc:Nat) (turned:Bool) (r gA gB:Nat) (d p:List Int) (V:World):Prop where
 bl:Below w.heap.size w V
 bk:Bk V r 329 #[.map (some gm),.slice (some ⟨gA,0,none⟩) n n,.slice (some ⟨gB,0,none⟩) n n,.slice LA l lc,.bool turned]
 bA:Bk V gA 3 (Ac d).toArray
 bB:Bk V gB 3 (Ac p).toArray
 lt:w.heap.size<=r/\w.heap.size<=gA/\w.heap.size<=gB/\gA≠gB
theorem make_ints2 (M:Nat) (hM:M<=10000) (X:World):∃ X',(Instr.makeSlice 22 (.int .i64 M) (.int .i64 M)).run Tryz.prog X=.ok (.slice (some ⟨X.heap.size,0,none⟩) M M) X'/\Bk X' X.heap.size 3 (Ac (List.replicate M 0)).toArray/\Below X.heap.size X X':=by
 obtain ⟨k0,hk0,kz0,kz1,kz2⟩:=info_parts intInfo;obtain ⟨X',hr,ho,hg⟩:=run_make_full (P:=Tryz.prog) X X.heap.size 22 3 k0 _ 1 Tryz.underlying22 hk0 kz0 kz1 .i64 .i64 M (by rw [kz2];omega) (by unfold maxLen;omega) Le
 rw [made_ints] at ho;exact ⟨X',hr,own_full ho,⟨hg.os,hg.tape,hg.output,hg.size,fun k hk=>hg.block k hk (by simp)⟩⟩
theorem intCells_set (l:List Int) (i:Nat) (x:Int):(Ac l).toArray.setIfInBounds i (.int .i64 x)=(Ac (l.set i x)).toArray:=by
 simp [Ac,List.map_set]
theorem bnd_ne {D:Ap} (hD:D.Ok) (wd:List Int):∀ b∈Ae D wd,b.fr≠b.dst:=by
 intro b hb;have key:∀ p q:Int×Int,p≠q->(b.fr=p/\b.dst=q)\/(b.fr=q/\b.dst=p)->b.fr≠b.dst:=by
  rintro p q h (⟨h1,h2⟩ | ⟨h1,h2⟩)
  ·rw [h1,h2];exact h
  ·rw [h1,h2];exact Ne.symm h
 rcases List.mem_append.1 hb with hb | hb
 ·rcases base_mem hb with ⟨c,hc,hb⟩ | ⟨i,c,hi,hc,hb⟩
  ·refine key gnd ((c:Int),0) (fun h=>?_) ((Kk hb).imp (fun h=>⟨h.1,h.2.1⟩) (fun h=>⟨h.1,h.2.1⟩))
   have:=congrArg Prod.fst h;simp [gnd] at this
  ·refine key ((c:Int),(i:Int)) ((c:Int),(i:Int)+1) (fun h=>?_) ((Kk hb).imp (fun h=>⟨h.1,h.2.1⟩) (fun h=>⟨h.1,h.2.1⟩))
   have:=congrArg Prod.snd h;simp at this;omega
 ·obtain ⟨r,hr,h⟩:=rd_mem hb;have hk:=hD.rd r hr;refine key (Jd r) (r.a,r.sl) (fun hq=>?_) (h.imp (fun h=>⟨h.1,h.2.1⟩) (fun h=>⟨h.1,h.2.1⟩))
  have h1:=congrArg Prod.fst hq;unfold Jd at h1
  split at h1
  ·simp [gnd] at h1;have:=hk.a;omega
  ·exact hk.ne h1.symm
theorem ixN_inj {N:List (Int×Int)} {p q:Int×Int} (hp:p∈N) (hq:q∈N) (h:ixN N p=ixN N q):p=q:=by
 have h1:=ixN_get hp;rw [h,ixN_get hq] at h1;injection h1 with h1
 exact h1.symm
structure RlxB (w:World) (n gm:Nat) (LA:Option Addr) (l lc:Nat) (turned:Bool) (r gA gB gT gH:Nat) (d p tl hd:List Int) (V:World):Prop where
 a:RlxA w n gm LA l lc turned r gA gB d p V
 bT:Bk V gT 3 (Ac tl).toArray
 bH:Bk V gH 3 (Ac hd).toArray
 lt:w.heap.size<=gT/\w.heap.size<=gH/\gT≠gH/\gT≠gA/\gT≠gB/\gH≠gA/\gH≠gB
section
variable {w V V':World} {n gm:Nat} {LA:Option Addr} {l lc:Nat} {turned:Bool} {r gA gB gT gH:Nat} {d p tl hd:List Int}
theorem RlxA.below (h:RlxA w n gm LA l lc turned r gA gB d p V) (hb:Below V.heap.size V V'):RlxA w n gm LA l lc turned r gA gB d p V' :=
 ⟨Bc h.bl hb,h.bk.keep hb,h.bA.keep hb,h.bB.keep hb,h.lt⟩
theorem RlxA.ne (h:RlxA w n gm LA l lc turned r gA gB d p V):r≠gA/\r≠gB:=⟨h.bk.ne h.bA (by decide),h.bk.ne h.bB (by decide)⟩
theorem RlxA.setA (h:RlxA w n gm LA l lc turned r gA gB d p V) (i:Nat) (x:Int):RlxA w n gm LA l lc turned r gA gB (d.set i x) p (V.setCell ⟨gA,i,none⟩ (.int .i64 x)) :=
 ⟨h.bl.setCell (p:=⟨gA,i,none⟩) h.lt.2.1 _,h.bk.far (p:=⟨gA,i,none⟩) h.ne.1 _,by rw [<- intCells_set];exact h.bA.put i _,h.bB.far (p:=⟨gA,i,none⟩) (Ne.symm h.lt.2.2.2) _,h.lt⟩
theorem RlxA.setB (h:RlxA w n gm LA l lc turned r gA gB d p V) (i:Nat) (x:Int):RlxA w n gm LA l lc turned r gA gB d (p.set i x) (V.setCell ⟨gB,i,none⟩ (.int .i64 x)) :=
 ⟨h.bl.setCell (p:=⟨gB,i,none⟩) h.lt.2.2.1 _,h.bk.far (p:=⟨gB,i,none⟩) h.ne.2 _,h.bA.far (p:=⟨gB,i,none⟩) h.lt.2.2.2 _,by rw [<- intCells_set];exact h.bB.put i _,h.lt⟩
theorem RlxB.below (h:RlxB w n gm LA l lc turned r gA gB gT gH d p tl hd V) (hb:Below V.heap.size V V'):RlxB w n gm LA l lc turned r gA gB gT gH d p tl hd V':=⟨h.a.below hb,h.bT.keep hb,h.bH.keep hb,h.lt⟩
theorem RlxB.setA (h:RlxB w n gm LA l lc turned r gA gB gT gH d p tl hd V) (i:Nat) (x:Int):RlxB w n gm LA l lc turned r gA gB gT gH (d.set i x) p tl hd (V.setCell ⟨gA,i,none⟩ (.int .i64 x)) :=
 ⟨h.a.setA i x,h.bT.far (p:=⟨gA,i,none⟩) h.lt.2.2.2.1 _,h.bH.far (p:=⟨gA,i,none⟩) h.lt.2.2.2.2.2.1 _,h.lt⟩
theorem RlxB.setB (h:RlxB w n gm LA l lc turned r gA gB gT gH d p tl hd V) (i:Nat) (x:Int):RlxB w n gm LA l lc turned r gA gB gT gH d (p.set i x) tl hd (V.setCell ⟨gB,i,none⟩ (.int .i64 x)) :=
 ⟨h.a.setB i x,h.bT.far (p:=⟨gB,i,none⟩) h.lt.2.2.2.2.1 _,h.bH.far (p:=⟨gB,i,none⟩) h.lt.2.2.2.2.2.2 _,h.lt⟩
theorem RlxA.far (h:RlxA w n gm LA l lc turned r gA gB d p V) {q:Nat} (hq:w.heap.size<=q) {cs:Array Value} (hb:Bk V q 3 cs) (h1:q≠gA) (h2:q≠gB) (i:Nat) (u:Value):RlxA w n gm LA l lc turned r gA gB d p (V.setCell ⟨q,i,none⟩ u) :=
 ⟨h.bl.setCell (p:=⟨q,i,none⟩) hq _,h.bk.far (p:=⟨q,i,none⟩) (h.bk.ne hb (by decide)) _,h.bA.far (p:=⟨q,i,none⟩) (Ne.symm h1) _,h.bB.far (p:=⟨q,i,none⟩) (Ne.symm h2) _,h.lt⟩
theorem RlxB.setT (h:RlxB w n gm LA l lc turned r gA gB gT gH d p tl hd V) (i:Nat) (x:Int):RlxB w n gm LA l lc turned r gA gB gT gH d p (tl.set i x) hd (V.setCell ⟨gT,i,none⟩ (.int .i64 x)) :=
 ⟨h.a.far h.lt.1 h.bT h.lt.2.2.2.1 h.lt.2.2.2.2.1 _ _,by rw [<- intCells_set];exact h.bT.put i _,h.bH.far (p:=⟨gT,i,none⟩) (Ne.symm h.lt.2.2.1) _,h.lt⟩
theorem RlxB.setH (h:RlxB w n gm LA l lc turned r gA gB gT gH d p tl hd V) (i:Nat) (x:Int):RlxB w n gm LA l lc turned r gA gB gT gH d p tl (hd.set i x) (V.setCell ⟨gH,i,none⟩ (.int .i64 x)) :=
 ⟨h.a.far h.lt.2.1 h.bH h.lt.2.2.2.2.2.1 h.lt.2.2.2.2.2.2 _ _,h.bT.far (p:=⟨gH,i,none⟩) h.lt.2.2.1 _,by rw [<- intCells_set];exact h.bH.put i _,h.lt⟩
end
def tlK (N:List (Int×Int)) (turned:Bool) (L:List Ao) (f:BF.Ed->Nat) (k:Nat):List Int:=((Hy N turned L).map fun e=>(f e:Int)).take k ++ List.replicate (L.length - k) 0
theorem tlK_zero (N:List (Int×Int)) (turned:Bool) (L:List Ao) (f:BF.Ed->Nat):tlK N turned L f 0=List.replicate L.length 0:=by simp [tlK]
theorem tlK_all (N:List (Int×Int)) (turned:Bool) (L:List Ao) (f:BF.Ed->Nat):tlK N turned L f L.length=(Hy N turned L).map fun e=>(f e:Int):=by
 unfold tlK;rw [List.take_of_length_le (by simp [Hy])]
 simp
theorem tlK_len (N:List (Int×Int)) (turned:Bool) (L:List Ao) (f:BF.Ed->Nat) (k:Nat) (hk:k<=L.length):(tlK N turned L f k).length=L.length:=by simp [tlK,Hy];omega
theorem tlK_set (N:List (Int×Int)) (turned:Bool) (L:List Ao) (f:BF.Ed->Nat) (k:Nat) (hk:k<L.length):(tlK N turned L f k).set k (f (edF N turned L[k]):Nat)=tlK N turned L f (k+1):=by
 unfold tlK;have hl:((Hy N turned L).map fun e=>(f e:Int)).length=L.length:=by simp [Hy]
 generalize hm:((Hy N turned L).map fun e=>(f e:Int))=M at *
 have e0:M[k]'(by omega)=(f (edF N turned L[k]):Nat):=by
  subst hm;simp [Hy]
 rw [show L.length - k=(L.length - (k+1))+1 by omega,List.replicate_succ,List.set_append_right _ _ (by rw [List.length_take];omega)]
 rw [show k - (M.take k).length=0 by simp;omega,List.set_cons_zero]
 rw [show M.take (k+1)=M.take k ++ [M[k]'(by omega)] by rw [List.take_add_one,List.getElem?_eq_getElem (by omega)];rfl,e0]
 simp
theorem edF_a (N:List (Int×Int)) (turned:Bool) (b:Ao):(edF N turned b).a=ixN N (endF turned b)/\(edF N turned b).z=ixN N (endZ turned b)/\(edF N turned b).m=b.most:=by
 unfold edF endF endZ;cases turned<;>exact ⟨rfl,rfl,rfl⟩
theorem BF_passK_succ {far:Int} {es:List BF.Ed} {k:Nat} {e:BF.Ed} (he:es[k]?=some e) (t:BF.St):BF.passK far es (k+1) t=BF.relax1 far k e (BF.passK far es k t):=passK_succ he t
theorem Gi {V:World} {g:Nat} {l:List Int} (h:Bk V g 3 (Ac l).toArray) {i:Nat} (hi:i<l.length):V.cell? ⟨g,i,none⟩=some (.int .i64 (l.getD i 0)):=by
 rw [h.cell i,Aj _ _ hi];simp [Ac,hi]
theorem relax_any (D:Ap) (hD:D.Ok) (hg:D.good=true) (wd:List Int) (hwr:∀ i,0<=wd.getD i 0/\wd.getD i 0<=255) (turned:Bool) (g:Nat) (w:World) (hG:GrAt w g (An (Ae D wd)) (Ae D wd)) :
  Calls Tryz.prog 146 #[.pointer (some ⟨g,0,none⟩),.agg #[.int .i64 (-1),.int .i64 0],.bool turned] w (RlxP (An (Ae D wd)) turned (Ae D wd) w):=by
 have hnm:=nm_len hD wd;have hbl:=bounds_len hD wd;have hgl:=gnd_lt hD wd;have HRG:=Hd (relG_of hD hg hwr turned);have HRW:=Hd (relW_init hD wd turned);have HND:=Hd (names_nodup (Ae D wd) [] List.nodup_nil);have HMEM:=Hd (fun b (hb:b∈Ae D wd)=>(show b.fr∈An (Ae D wd)/\b.dst∈An (Ae D wd) from ⟨(Ho hD wd _).2 (Kl hD wd b hb).1,(Ho hD wd _).2 (Kl hD wd b hb).2⟩))
 have HNEQ:=Hd (fun b (hb:b∈Ae D wd)=>bnd_ne hD wd b hb)
 have HGN:=Hd (show gnd∈An (Ae D wd) from (Ho hD wd _).2 (.inl rfl))
 change Hid ((An (Ae D wd)).Nodup) at HND;generalize An (Ae D wd)=N at *;generalize Ae D wd=L at *;obtain ⟨gm,LA,B,lc,nb,hb1,hm1,hr1⟩:=hG.ex;obtain ⟨n,hn⟩:∃ n,N.length=n:=⟨_,rfl⟩;rw [hn] at hb1 hnm hgl HRG HRW;have HD0:Hid ((initF N).d=(List.replicate n Di).set (ixN N gnd) 0/\(initF N).p=List.replicate n (-1)):=Hd (by unfold initF;rw [hn];exact ⟨rfl,rfl⟩)
 have HN:=Hd hn;clear hn hD hg hwr hG;obtain ⟨W,hW⟩:∃ W,w.alloc (.cells #[.int .i64 (-1),.int .i64 0] 141)=W:=⟨_,rfl⟩;have hbW:Below w.heap.size w W:=by rw [<- hW];exact Ba
 have X:Bk W w.heap.size 141 #[.int .i64 (-1),.int .i64 0]:=by rw [<- hW];exact Aa rfl
 have HX:=Hd (Ai X hbW);have HG:=Hd (fun (X:World) (h:Below w.heap.size w X)=>Ai (hb1.keep h) (Ai (hm1.below h) (hr1.below h)))
 have HW:=Hd hW;have y0:=(hb1.keep hbW).cell 0;have y1:=(hb1.keep hbW).cell 1;have y2:=(hb1.keep hbW).cell 2;have yl:=(hb1.keep hbW).lt;simp at y0 y1 y2;clear hW X hb1 hm1 hr1;have HR1:=Hd (fun (X:World) (q:Nat) (h:Bk X q 3 #[.int .i64 4611686018427387904])=>repeat_any Di (some ⟨q,0,none⟩) 1 n X (fun _=>⟨q,0,rfl,h.lt,fun j u hu=>by rw [Nat.zero_add,h.cell j];simpa [Ac,Di] using hu⟩) hnm.1 (by omega))
 have HR2:=Hd (fun (X:World) (q:Nat) (h:Bk X q 3 #[.int .i64 (-1)])=>repeat_any (-1) (some ⟨q,0,none⟩) 1 n X (fun _=>⟨q,0,rfl,h.lt,fun j u hu=>by rw [Nat.zero_add,h.cell j];simpa [Ac] using hu⟩) hnm.1 (by omega))
 go_enter Tryz.func146,Tryz.ntmps146;go_upto_region 1 with fail
 rw [HW.out];clear HW;go_step3;go_upto_region 1 with fail
 have hnI:(n:Int)<=1200:=by omega
 have s0:W.drew.cell? ⟨g,0,none⟩=some (.slice LA L.length lc):=y0;have s1:W.drew.cell? ⟨g,1,none⟩=some (.map (some gm)):=y1;have s2:W.drew.cell? ⟨g,2,none⟩=some (.slice B n nb):=y2;go_cut [8] (fun v8 wx=>∃ r gA gB:Nat,v8=.pointer (some ⟨r,0,none⟩)/\Hid (RlxA W n gm LA L.length lc turned r gA gB (List.replicate n Di) (List.replicate n (-1)) wx))
 case first =>
  as_aux_lemma =>
   have hb5:True:=trivial;have hb6:True:=trivial;go_region_held3 (fun w'=>w'.cell? ⟨g,0,none⟩=some (.slice LA L.length lc)/\w'.cell? ⟨g,1,none⟩=some (.map (some gm))/\w'.cell? ⟨g,2,none⟩=some (.slice B n nb))
    (refine ⟨?_,?_,?_⟩<;>(repeat (first | with_reducible exact y0 | with_reducible exact y1 | with_reducible exact y2 | with_reducible exact s0 | with_reducible exact s1 | with_reducible exact s2 | with_reducible refine keepad ?_ | with_reducible refine keepa ?_ | with_reducible refine Ag hb5 ?_ | with_reducible refine Ag hb6 ?_)))
    (first
    | (go_at_call 192;(with_reducible refine (HR1.out _ _ ((Aa rfl).drew)).mono ?_);rintro e w5 ⟨hb5,gA,hgA,rfl,kA⟩)
    | (go_at_call 192;(with_reducible refine (HR1.out _ _ (((Aa rfl).alloc _).drew)).mono ?_);rintro e w5 ⟨hb5,gA,hgA,rfl,kA⟩)
    | (go_at_call 192;(with_reducible refine (HR1.out _ _ ((Aa (World.size_alloc _ _)).drew)).mono ?_);rintro e w5 ⟨hb5,gA,hgA,rfl,kA⟩)
    | (go_at_call 192;(with_reducible refine (HR1.out _ _ (Aa rfl)).mono ?_);rintro e w5 ⟨hb5,gA,hgA,rfl,kA⟩)
    | (go_at_call 192;(with_reducible refine (HR1.out _ _ (((Aa rfl).alloc _).drew.keep hb6)).mono ?_);rintro e w5 ⟨hb5,gA,hgA,rfl,kA⟩)
    | (go_at_call 192;(with_reducible refine (HR1.out _ _ ((Aa (World.size_alloc _ _)).drew.keep hb6)).mono ?_);rintro e w5 ⟨hb5,gA,hgA,rfl,kA⟩)
    | (go_at_call 192;(with_reducible refine (HR2.out _ _ ((Aa rfl).drew)).mono ?_);rintro e w6 ⟨hb6,gB,hgB,rfl,kB⟩)
    | (go_at_call 192;(with_reducible refine (HR2.out _ _ (((Aa rfl).alloc _).drew)).mono ?_);rintro e w6 ⟨hb6,gB,hgB,rfl,kB⟩)
    | (go_at_call 192;(with_reducible refine (HR2.out _ _ ((Aa (World.size_alloc _ _)).drew)).mono ?_);rintro e w6 ⟨hb6,gB,hgB,rfl,kB⟩)
    | (go_at_call 192;(with_reducible refine (HR2.out _ _ (Aa rfl)).mono ?_);rintro e w6 ⟨hb6,gB,hgB,rfl,kB⟩)
    | (go_at_call 192;(with_reducible refine (HR2.out _ _ (((Aa rfl).alloc _).drew.keep hb5)).mono ?_);rintro e w6 ⟨hb6,gB,hgB,rfl,kB⟩)
    | (go_at_call 192;(with_reducible refine (HR2.out _ _ ((Aa (World.size_alloc _ _)).drew.keep hb5)).mono ?_);rintro e w6 ⟨hb6,gB,hgB,rfl,kB⟩))
   all_goals (clear s0 s1 s2 y0 y1 y2 yl)
   all_goals
    go_wp2_with fail;go_meet
    case rel =>
     have h5:=hb5.size;have h6:=hb6.size;have hA:=kA.lt;have hB:=kB.lt;refine ⟨_,gA,gB,rfl,Hd ⟨?_,Aa rfl,?_,?_,?_⟩⟩
     ·repeat (first | with_reducible exact Below.refl _ _ | with_reducible refine Bc ?_ hb6 | with_reducible refine Bc ?_ hb5 | with_reducible refine bw_drew ?_ | with_reducible refine bw_alloc ?_ _)
     ·first | exact kA.alloc _ | exact (kA.keep hb6).alloc _ | exact ((kA.alloc _).keep hb6).alloc _
     ·first | exact kB.alloc _ | exact (kB.keep hb5).alloc _ | exact ((kB.alloc _).keep hb5).alloc _
     ·simp at h5 h6 hgA hgB;omega
 case rest =>
  obtain ⟨r,gA,gB,rfl,HA⟩:=hcut;clear s0 s1 s2 y0 y1 y2 yl HR1 HR2;have hbW2:=HX.out.2;have HGW:=Hd (fun (X:World) (h:Below W.heap.size W X)=>HG.out X (hbW2.trans (h.mono hbW2.size)))
  have HX2:=Hd (fun (X:World) (h:Below W.heap.size W X)=>HX.out.1.keep h)
  have HBW:=Hd hbW2;clear hbW2 hbW;have hsI:(ixN N gnd:Int)<n:=by omega
  have lk:(Instr.lookup 323 (.map (some gm)) (.agg #[.int .i64 (-1),.int .i64 0]) false).run Tryz.prog wc.drew=.ok (.int .i64 (ixN N gnd:Nat)) wc.drew:=look323 (w:=wc.drew) (HGW.out wc HA.out.bl).2.1 HND.out (-1) 0 HGN.out;generalize ixN N gnd=s at *;have y1:=(HGW.out wc HA.out.bl).1.cell 1;have z0:=(HX2.out wc HA.out.bl).cell 0;have z1:=(HX2.out wc HA.out.bl).cell 1;have r1:=HA.out.bk.cell 1;have rl:=HA.out.bk.lt;have yl:=(HGW.out wc HA.out.bl).1.lt;have a0:=HA.out.bA.fz s;have al:=HA.out.bA.lt;have a1:=Gi HA.out.bA (i:=s) (by simp;omega)
  simp at y1 z0 z1 r1;go_upto_region 2 with fail
  go_region;have HA2:Hid (RlxA W n gm LA L.length lc turned r gA gB (initF N).d (initF N).p (wc.setCell ⟨gA,s,none⟩ (.int .i64 0)).drew):=Hd (by
   rw [HD0.out.1,HD0.out.2];have h:=HA.out.setA s 0;exact ⟨h.bl.drew,h.bk.drew,h.bA.drew,h.bB.drew,h.lt⟩)
  clear lk y1 z0 z1 r1 rl yl a0 al a1 HA HD0;generalize (wc.setCell ⟨gA,s,none⟩ (.int .i64 0)).drew=V0 at *;generalize initF N=t0 at *;have y0:=(HGW.out V0 HA2.out.bl).1.cell 0;have yl:=(HGW.out V0 HA2.out.bl).1.lt;simp at y0;have s0:V0.drew.cell? ⟨g,0,none⟩=some (.slice LA L.length lc):=y0;have HMK:=Hd (make_ints2 L.length (by omega))
  go_upto_region 3 with fail
  go_cut [9,10] (fun v9 v10 wx=>∃ gT gH:Nat,v9=.slice (some ⟨gT,0,none⟩) L.length L.length/\v10=.slice (some ⟨gH,0,none⟩) L.length L.length/\Hid (RlxB W n gm LA L.length lc turned r gA gB gT gH t0.d t0.p (List.replicate L.length 0) (List.replicate L.length 0) wx))
  case first =>
   as_aux_lemma =>
    have hbm:True:=trivial;have hbn:True:=trivial;go_region_held3 (fun w'=>w'.cell? ⟨g,0,none⟩=some (.slice LA L.length lc))
     (repeat (first | with_reducible exact y0 | with_reducible exact s0 | with_reducible refine Ag hbm ?_ | with_reducible refine Ag hbn ?_))
     (first | (obtain ⟨wm,hr,RM,hbm⟩:=HMK.out V0.drew;rw [hr];clear hr) | (obtain ⟨wn,hr,RN,hbn⟩:=HMK.out wm;rw [hr];clear hr))
    all_goals
     go_wp2_with fail;go_meet
     case rel =>
      have hbx:=Bc (Bc (bw_drew (Below.refl V0.heap.size V0)) hbm) hbn;have h1:=HA2.out.bl.size;have h2:=HA2.out.bA.lt;have h3:=HA2.out.bB.lt;have h4:V0.heap.size<wm.heap.size:=RM.lt;have hA:=HA2.out.below hbx;have RM2:=RM.keep hbn
      first
      | exact ⟨_,_,rfl,rfl,Hd ⟨hA,RM2,RN,by simp;omega⟩⟩
      | exact ⟨_,_,rfl,rfl,Hd ⟨hA,RN,RM2,by simp;omega⟩⟩
  case rest =>
   obtain ⟨gT,gH,rfl,rfl,HB⟩:=hcut;clear y0 yl s0 HMK HA2;have y0:=(HGW.out wc HB.out.a.bl).1.cell 0;have yl:=(HGW.out wc HB.out.a.bl).1.lt;simp at y0;have HB0:Hid (RlxB W n gm LA L.length lc turned r gA gB gT gH t0.d t0.p (tlK N turned L BF.Ed.a 0) (tlK N turned L BF.Ed.z 0) wc):=Hd (by rw [tlK_zero,tlK_zero];exact HB.out)
   clear HB;go_upto_region 5 with fail
   clear y0 yl;go_loopw [72] (fun v wr=>∃ k:Nat,k<=L.length/\v=.int .i64 k/\Hid (RlxB W n gm LA L.length lc turned r gA gB gT gH t0.d t0.p (tlK N turned L BF.Ed.a k) (tlK N turned L BF.Ed.z k) wr)) (fun v _=>L.length - (intOf v).toNat)
   case atStart=>exact ⟨0,Nat.zero_le _,rfl,HB0⟩
   case round =>
    as_aux_lemma =>
     clear HB0;obtain ⟨k,hk,rfl,HB⟩:=hrel
     by_cases hlt:k<L.length
     ·have hkI:(k:Int)<L.length:=by omega
      obtain ⟨b6,o6,hA6,hb6,hc6⟩:=row7 (HGW.out wr HB.out.a.bl).2.2 (by omega)
      have d0':=hc6 k hlt 0 _ rfl;have d1:=hc6 k hlt 1 _ rfl;have d2:=hc6 k hlt 2 _ rfl;have d3:=hc6 k hlt 3 _ rfl;have d4:=hc6 k hlt 4 _ rfl;have d5:=hc6 k hlt 5 _ rfl;have d6:=hc6 k hlt 6 _ rfl;have HST:=Hd (Ai (tlK_set N turned L BF.Ed.a k hlt) (tlK_set N turned L BF.Ed.z k hlt));have HME:=Hd (HMEM.out L[k] (List.getElem_mem hlt));subst hA6;generalize L[k]=x at *;simp only [Nat.add_zero] at d0';clear hc6;have HEN:=Hd (fun X:World=>ends_of x turned X)
      go_upto_region 8 with (go_at_call 193;refine (HEN.out _).mono ?_;rintro e w9 ⟨rfl,hb9⟩)
      have hb8:Below wr.heap.size wr ((w9.alloc (.cells #[.int .i64 (endF turned x).1,.int .i64 (endF turned x).2] 141)).alloc (.cells #[.int .i64 (endZ turned x).1,.int .i64 (endZ turned x).2] 141)):=(Bc (bw_alloc (Below.refl _ wr) (.cells #[.int .i64 x.fr.1,.int .i64 x.fr.2,.int .i64 x.dst.1,.int .i64 x.dst.2,.int .i64 x.most,.int .i64 x.kind,.int .i64 x.id] 319)) hb9).alloc (by have:=(Bc (bw_alloc (Below.refl _ wr) (.cells #[.int .i64 x.fr.1,.int .i64 x.fr.2,.int .i64 x.dst.1,.int .i64 x.dst.2,.int .i64 x.most,.int .i64 x.kind,.int .i64 x.id] 319)) hb9).size;exact this) _ |> fun h=>bw_alloc h _
      have X13:Bk ((w9.alloc (.cells #[.int .i64 (endF turned x).1,.int .i64 (endF turned x).2] 141)).alloc (.cells #[.int .i64 (endZ turned x).1,.int .i64 (endZ turned x).2] 141)) w9.heap.size 141 #[.int .i64 (endF turned x).1,.int .i64 (endF turned x).2]:=(Aa rfl).alloc _;have X14:Bk ((w9.alloc (.cells #[.int .i64 (endF turned x).1,.int .i64 (endF turned x).2] 141)).alloc (.cells #[.int .i64 (endZ turned x).1,.int .i64 (endZ turned x).2] 141)) (w9.heap.size+1) 141 #[.int .i64 (endZ turned x).1,.int .i64 (endZ turned x).2]:=Aa (by simp)
      have HB8:=Hd (HB.out.below hb8);have hpa:endF turned x∈N/\endZ turned x∈N:=by
       unfold endF endZ;cases turned
       ·exact HME.out
       ·exact ⟨HME.out.2,HME.out.1⟩
      have HPA:=Hd hpa;rw [(edF_a N turned x).1,(edF_a N turned x).2.1] at HST;clear hb8 hb9 d0' d1 d2 d3 d4 d5 d6 hb6 HB HEN HME hpa;generalize endF turned x=pa at *;generalize endZ turned x=pz at *;obtain ⟨pa1,pa2⟩:=pa;obtain ⟨pz1,pz2⟩:=pz
      dsimp only at X13 X14 ⊢
      generalize ((w9.alloc (.cells #[.int .i64 pa1,.int .i64 pa2] 141)).alloc (.cells #[.int .i64 pz1,.int .i64 pz2] 141))=V8 at *;generalize w9.heap.size=q13 at *;have hgw:=(HGW.out V8 HB8.out.a.bl);have y1:=hgw.1.cell 1;have yl:=hgw.1.lt;have z0:=X13.cell 0;have z1:=X13.cell 1;have z2:=X14.cell 0;have z3:=X14.cell 1;have ft:=HB8.out.bT.fz k;have fh:=HB8.out.bH.fz k;have lt_:=HB8.out.bT.lt;have lh:=HB8.out.bH.lt;have ct:=Gi HB8.out.bT (i:=k) (by rw [tlK_len _ _ _ _ _ hk];exact hlt)
      have ch:=Gi HB8.out.bH (i:=k) (by rw [tlK_len _ _ _ _ _ hk];exact hlt)
      have lka:=look323 (w:=V8.drew) (hgw.2.1:Bv V8.drew gm (ixF N)) HND.out pa1 pa2 HPA.out.1;have lkz:=look323 (w:=V8.drew) (hgw.2.1:Bv V8.drew gm (ixF N)) HND.out pz1 pz2 HPA.out.2;have hth:gT≠gH:=HB8.out.lt.2.2.1;simp at y1 z0 z1 z2 z3;generalize (tlK N turned L BF.Ed.a k).getD k 0=o1 at *;generalize (tlK N turned L BF.Ed.z k).getD k 0=o2 at *;generalize ixN N (pa1,pa2)=ia at *;generalize ixN N (pz1,pz2)=iz at *;clear hgw X13 X14;go_region;have HB9:Hid (RlxB W n gm (some ⟨b6,o6,none⟩) L.length lc turned r gA gB gT gH t0.d t0.p (tlK N turned L BF.Ed.a (k+1)) (tlK N turned L BF.Ed.z (k+1)) ((V8.setCell ⟨gT,k,none⟩ (.int .i64 ia)).setCell ⟨gH,k,none⟩ (.int .i64 iz)).drew):=Hd (by
       have h:=(HB8.out.setT k ia).setH k iz;rw [HST.out.1,HST.out.2] at h;exact h.below (As (Below.refl _ _) 1))
      clear y1 yl z0 z1 z2 z3 ft fh lt_ lh ct ch lka lkz HB8 hth;go_wp2_with fail;go_roundw
      case rel=>exact ⟨k+1,by omega,by go_num,HB9⟩
      case measure=>simp [intOf];omega
     ·obtain rfl:k=L.length:=by omega
      rw [tlK_all,tlK_all] at HB;have hesl:(Hy N turned L).length=L.length:=by simp [Hy]
      have hget:∀ j (hj:j<L.length),(Hy N turned L)[j]?=some (edF N turned L[j]):=fun j hj=>by simp [Hy,hj]
      have HES:=Hd (Ai hesl hget);have HAZ:=Hd (fun b=>edF_a N turned b)
      have HNZ:=Hd (fun (b:Ao) (hb:b∈L)=>(show (edF N turned b).a≠(edF N turned b).z from by
       have h1:=HMEM.out b hb;have h2:=HNEQ.out b hb;rw [(edF_a N turned b).1,(edF_a N turned b).2.1];unfold endF endZ;cases turned
       ·exact fun h=>h2 (ixN_inj h1.1 h1.2 h)
       ·exact fun h=>h2 (ixN_inj h1.2 h1.1 h).symm))
      clear hesl hget;have HR0:Hid (RelW (Hy N turned L) s n 1000000000 Di 0 t0 (relF N turned L)/\RlxB W n gm LA L.length lc turned r gA gB gT gH t0.d t0.p ((Hy N turned L).map fun e=>(e.a:Int)) ((Hy N turned L).map fun e=>(e.z:Int)) wr):=Hd ⟨HRW.out,HB.out⟩
      clear HB HRW HMEM HNEQ;generalize hes:Hy N turned L=es at *;generalize hR:relF N turned L=R at *;have HRR:=Hd hR;have HEE:=Hd hes;clear hes hR;go_wp2_with fail;go_step3;go_upto_region 12 with fail
      go_loopw [15] (fun v wr=>∃ (k:Nat) (t:BF.St),v=.int .i64 k/\Hid (RelW es s n 1000000000 Di k t R/\RlxB W n gm LA L.length lc turned r gA gB gT gH t.d t.p (es.map fun e=>(e.a:Int)) (es.map fun e=>(e.z:Int)) wr)) (fun v _=>n+2 - (intOf v).toNat)
      case atStart=>exact ⟨0,t0,rfl,HR0⟩
      case round =>
       as_aux_lemma =>
        clear HR0;obtain ⟨k,t,rfl,HR⟩:=hrel;have hkn:=HR.out.1.rle;have y0:=(HGW.out wr HR.out.2.a.bl).1.cell 0;have yl:=(HGW.out wr HR.out.2.a.bl).1.lt;simp at y0;have HI0:Hid (RlxB W n gm LA L.length lc turned r gA gB gT gH (BF.passK Di es 0 ⟨t.d,t.p,false⟩).d (BF.passK Di es 0 ⟨t.d,t.p,false⟩).p (es.map fun e=>(e.a:Int)) (es.map fun e=>(e.z:Int)) wr):=Hd HR.out.2
        have HRt:=Hd HR.out.1;clear HR;go_upto_region 14 with fail
        clear y0 yl;go_loopw [16,109] (fun c v wr=>∃ j:Nat,j<=L.length/\v=.int .i64 j/\c=.bool (BF.passK Di es j ⟨t.d,t.p,false⟩).ch/\Hid (RlxB W n gm LA L.length lc turned r gA gB gT gH (BF.passK Di es j ⟨t.d,t.p,false⟩).d (BF.passK Di es j ⟨t.d,t.p,false⟩).p (es.map fun e=>(e.a:Int)) (es.map fun e=>(e.z:Int)) wr)/\Hid (n<k->(BF.passK Di es j ⟨t.d,t.p,false⟩).ch=false)) (fun _ v _=>L.length - (intOf v).toNat)
        case atStart=>exact ⟨0,Nat.zero_le _,rfl,rfl,HI0,Hd (fun _=>rfl)⟩
        case round =>
         as_aux_lemma =>
          clear HI0;obtain ⟨j,hj,rfl,rfl,HI,HCH⟩:=hrel
          by_cases hlt:j<L.length
          ·have hjI:(j:Int)<L.length:=by omega
           obtain ⟨b6,o6,hA6,hb6,hc6⟩:=row7 (HGW.out wr HI.out.a.bl).2.2 (by omega)
           have d0':=hc6 j hlt 0 _ rfl;have d1:=hc6 j hlt 1 _ rfl;have d2:=hc6 j hlt 2 _ rfl;have d3:=hc6 j hlt 3 _ rfl;have d4:=hc6 j hlt 4 _ rfl;have d5:=hc6 j hlt 5 _ rfl;have d6:=hc6 j hlt 6 _ rfl;have he:=HES.out.2 j hlt;have HSC:=Hd (BF_passK_succ (far:=Di) he ⟨t.d,t.p,false⟩);have haz:=HAZ.out L[j];have hem:=List.mem_of_getElem? he;have hln:=HRG.out.hn _ hem;have hmm:=HRG.out.hM _ hem;obtain ⟨hinv,hbd⟩:=HRt.out.mid HRG.out j (by rw [HES.out.1];exact hj)
           have hda:=hbd _ hln.1;have hdz:=hbd _ hln.2;have hja:(es.map fun e=>(e.a:Int)).getD j 0=(edF N turned L[j]).a:=by
            rw [List.getD_eq_getElem?_getD,List.getElem?_map,he];rfl
           have hjz:(es.map fun e=>(e.z:Int)).getD j 0=(edF N turned L[j]).z:=by
            rw [List.getD_eq_getElem?_getD,List.getElem?_map,he];rfl
           have hlow:(((n+2)*es.length:Nat):Int)*1000000000<=1000000000000000:=by
            rw [HES.out.1];have h1:(n+2)*L.length<=1202*600:=Nat.mul_le_mul (by omega) hbl
            omega
           have hmost:(edF N turned L[j]).m=L[j].most:=haz.2.2;have HNJ:=Hd (HNZ.out L[j] (List.getElem_mem hlt));have HEJ:=Hd he;rw [hmost] at hmm;subst hA6;generalize hxx:L[j]=x at *;have HXX:=Hd hxx;simp only [Nat.add_zero] at d0';clear hc6 hxx haz hem hbd;go_upto_region 16 with fail
           have hb8:Below wr.heap.size wr (wr.alloc (.cells #[.int .i64 x.fr.1,.int .i64 x.fr.2,.int .i64 x.dst.1,.int .i64 x.dst.2,.int .i64 x.most,.int .i64 x.kind,.int .i64 x.id] 319)):=Ba;have X18:Bk (wr.alloc (.cells #[.int .i64 x.fr.1,.int .i64 x.fr.2,.int .i64 x.dst.1,.int .i64 x.dst.2,.int .i64 x.most,.int .i64 x.kind,.int .i64 x.id] 319)) wr.heap.size 319 #[.int .i64 x.fr.1,.int .i64 x.fr.2,.int .i64 x.dst.1,.int .i64 x.dst.2,.int .i64 x.most,.int .i64 x.kind,.int .i64 x.id]:=Aa rfl;have HI8:=Hd (HI.out.below hb8);clear hb8 d0' d1 d2 d3 d4 d5 d6 hb6 HI;generalize (wr.alloc (.cells #[.int .i64 x.fr.1,.int .i64 x.fr.2,.int .i64 x.dst.1,.int .i64 x.dst.2,.int .i64 x.most,.int .i64 x.kind,.int .i64 x.id] 319))=V1 at *;generalize wr.heap.size=q18 at *;have hU:=HI8.out;have r1:=hU.a.bk.cell 1;have rl:=hU.a.bk.lt;have x4:=X18.cell 4;have ct:=Gi hU.bT (i:=j) (by rw [List.length_map,HES.out.1];exact hlt)
           have chh:=Gi hU.bH (i:=j) (by rw [List.length_map,HES.out.1];exact hlt)
           have ca:=Gi hU.a.bA (i:=(edF N turned x).a) (by rw [hinv.dl];exact hln.1)
           have cz:=Gi hU.a.bA (i:=(edF N turned x).z) (by rw [hinv.dl];exact hln.2)
           rw [hja] at ct;rw [hjz] at chh;simp at r1 x4;have HIV:=Hd hinv;have HLN:=Hd hln;have hanI:((edF N turned x).a:Int)<n:=by omega
           have hznI:((edF N turned x).z:Int)<n:=by omega
           have hdaI:-1000000000000000<=(BF.passK Di es j ⟨t.d,t.p,false⟩).d.getD (edF N turned x).a 0:=by omega
           have hdzI:-1000000000000000<=(BF.passK Di es j ⟨t.d,t.p,false⟩).d.getD (edF N turned x).z 0:=by omega
           have HQN:=Hd (fun q:Nat=>HI8.out.below (As (Below.refl V1.heap.size V1) q))
           have HX18:=Hd X18;clear hU X18 hln hinv hja hjz hmost he;have hdaT:(BF.passK Di es j ⟨t.d,t.p,false⟩).d.getD (edF N turned x).a 0<=4611686018427387904:=hda.2;have hdzT:(BF.passK Di es j ⟨t.d,t.p,false⟩).d.getD (edF N turned x).z 0<=4611686018427387904:=hdz.2;have hmmI:-1000000000<=x.most/\x.most<=1000000000:=hmm;have HRX:Hid (BF.passK Di es (j+1) ⟨t.d,t.p,false⟩=if (BF.passK Di es j ⟨t.d,t.p,false⟩).d.getD (edF N turned x).a 0=4611686018427387904\/(BF.passK Di es j ⟨t.d,t.p,false⟩).d.getD (edF N turned x).z 0<=(BF.passK Di es j ⟨t.d,t.p,false⟩).d.getD (edF N turned x).a 0+x.most then BF.passK Di es j ⟨t.d,t.p,false⟩ else ⟨(BF.passK Di es j ⟨t.d,t.p,false⟩).d.set (edF N turned x).z ((BF.passK Di es j ⟨t.d,t.p,false⟩).d.getD (edF N turned x).a 0+x.most),(BF.passK Di es j ⟨t.d,t.p,false⟩).p.set (edF N turned x).z j,true⟩):=Hd (by
            rw [HSC.out];unfold BF.relax1;rw [(HAZ.out x).2.2];rfl)
           clear hda hdz hmm hlow HSC;generalize hda0:(BF.passK Di es j ⟨t.d,t.p,false⟩).d.getD (edF N turned x).a 0=da at *;generalize hdz0:(BF.passK Di es j ⟨t.d,t.p,false⟩).d.getD (edF N turned x).z 0=dz at *;have HDD:=Hd (Ai hda0 hdz0);clear hda0 hdz0;generalize haa:(edF N turned x).a=ea at *;generalize hzz:(edF N turned x).z=ez at *;have HAA:=Hd (Ai haa hzz);clear haa hzz
           by_cases h1:da=4611686018427387904
           ·as_aux_lemma =>
             have HNX:Hid (BF.passK Di es (j+1) ⟨t.d,t.p,false⟩=BF.passK Di es j ⟨t.d,t.p,false⟩):=Hd (by rw [HRX.out,if_pos (.inl h1)])
             rw [h1] at ca;clear hdaT hdaI HRX;go_quiet (fail);clear r1 rl x4 ct chh ca cz;go_wp2_with fail;go_roundw
             case rel=>exact ⟨j+1,by omega,by go_num,by rw [HNX.out],by rw [HNX.out];exact Hd (HQN.out nq),by rw [HNX.out];exact HCH⟩
             case measure=>simp [intOf];omega
           ·have b1:(da == 4611686018427387904)=false:=by simpa using h1
            by_cases h2:dz<=da+x.most
            ·as_aux_lemma =>
              have HNX:Hid (BF.passK Di es (j+1) ⟨t.d,t.p,false⟩=BF.passK Di es j ⟨t.d,t.p,false⟩):=Hd (by rw [HRX.out,if_pos (.inr h2)])
              clear HRX h1;go_quiet (fail);clear r1 rl x4 ct chh ca cz;go_wp2_with fail;go_roundw
              case rel=>exact ⟨j+1,by omega,by go_num,by rw [HNX.out],by rw [HNX.out];exact Hd (HQN.out nq),by rw [HNX.out];exact HCH⟩
              case measure=>simp [intOf];omega
            ·as_aux_lemma =>
              have HNX:Hid (BF.passK Di es (j+1) ⟨t.d,t.p,false⟩=⟨(BF.passK Di es j ⟨t.d,t.p,false⟩).d.set ez (da+x.most),(BF.passK Di es j ⟨t.d,t.p,false⟩).p.set ez j,true⟩):=Hd (by rw [HRX.out,if_neg (fun h=>h.elim h1 h2)])
              have HN1:=Hd (Ai h1 h2);clear HRX h1;go_quiet (fail);clear r1 rl x4 ct chh ca cz;have HI9:=Hd (HQN.out nq);have HX9:=Hd (HX18.out.keep (As (Below.refl V1.heap.size V1) nq));clear HI8 HQN HX18 b1;generalize V1.drewN nq=V2 at *;have hU:=HI9.out;have r1:=hU.a.bk.cell 1;have r2:=hU.a.bk.cell 2;have rl:=hU.a.bk.lt;have x4:=HX9.out.cell 4;have ct:=Gi hU.bT (i:=j) (by rw [List.length_map,HES.out.1];exact hlt)
              have chh:=Gi hU.bH (i:=j) (by rw [List.length_map,HES.out.1];exact hlt)
              have ca:=Gi hU.a.bA (i:=ea) (by rw [HIV.out.dl];exact HLN.out.1)
              have cz:=Gi hU.a.bA (i:=ez) (by rw [HIV.out.dl];exact HLN.out.2)
              have cp:=Gi hU.a.bB (i:=ez) (by rw [HIV.out.pl];exact HLN.out.2)
              have he:=HEJ.out;have hja:(es.map fun e=>(e.a:Int)).getD j 0=ea:=by
               rw [List.getD_eq_getElem?_getD,List.getElem?_map,he,<- HAA.out.1];rfl
              have hjz:(es.map fun e=>(e.z:Int)).getD j 0=ez:=by
               rw [List.getD_eq_getElem?_getD,List.getElem?_map,he,<- HAA.out.2];rfl
              rw [hja] at ct;rw [hjz] at chh;rw [HDD.out.1] at ca;rw [HDD.out.2] at cz;have fa:=hU.a.bA.fz ez;have fb:=hU.a.bB.fz ez;have la:=hU.a.bA.lt;have lb:=hU.a.bB.lt;have hab:gA≠gB:=hU.a.lt.2.2.2;have hne:ea≠ez:=HNJ.out;have hs:=hU.setA ez (da+x.most);have ca2:=Gi hs.a.bA (i:=ea) (by rw [List.length_set,HIV.out.dl];exact HLN.out.1)
              rw [BF.getD_set _ _ _ _ (by rw [HIV.out.dl];exact HLN.out.2),if_neg (Ne.symm hne),HDD.out.1] at ca2
              have r1':=hs.a.bk.cell 1;have r2':=hs.a.bk.cell 2;have ct':=Gi hs.bT (i:=j) (by rw [List.length_map,HES.out.1];exact hlt)
              have chh':=Gi hs.bH (i:=j) (by rw [List.length_map,HES.out.1];exact hlt)
              rw [hja] at ct';rw [hjz] at chh';have x4':=(HX9.out.far (p:=⟨gA,ez,none⟩) (HX9.out.ne hU.a.bA (by decide)) (.int .i64 (da+x.most))).cell 4
              simp at r1 r2 x4 r1' r2' x4';have T0:V2.drew.cell? ⟨r,1,none⟩=some (.slice (some ⟨gA,0,none⟩) n n)/\V2.drew.cell? ⟨r,2,none⟩=some (.slice (some ⟨gB,0,none⟩) n n)/\V2.drew.cell? ⟨gT,j,none⟩=some (.int .i64 ea)/\V2.drew.cell? ⟨gH,j,none⟩=some (.int .i64 ez)/\V2.drew.cell? ⟨gA,ea,none⟩=some (.int .i64 da)/\V2.drew.cell? ⟨q18,4,none⟩=some (.int .i64 x.most):=⟨r1,r2,ct,chh,ca,x4⟩;have T1:(V2.setCell ⟨gA,ez,none⟩ (.int .i64 (da+x.most))).drew.cell? ⟨r,1,none⟩=some (.slice (some ⟨gA,0,none⟩) n n)/\(V2.setCell ⟨gA,ez,none⟩ (.int .i64 (da+x.most))).drew.cell? ⟨r,2,none⟩=some (.slice (some ⟨gB,0,none⟩) n n)/\(V2.setCell ⟨gA,ez,none⟩ (.int .i64 (da+x.most))).drew.cell? ⟨gT,j,none⟩=some (.int .i64 ea)/\(V2.setCell ⟨gA,ez,none⟩ (.int .i64 (da+x.most))).drew.cell? ⟨gH,j,none⟩=some (.int .i64 ez)/\(V2.setCell ⟨gA,ez,none⟩ (.int .i64 (da+x.most))).drew.cell? ⟨gA,ea,none⟩=some (.int .i64 da)/\(V2.setCell ⟨gA,ez,none⟩ (.int .i64 (da+x.most))).drew.cell? ⟨q18,4,none⟩=some (.int .i64 x.most):=⟨r1',r2',ct',chh',ca2,x4'⟩;have hs2:=hs.setB ez j;have ca3:=Gi hs2.a.bA (i:=ea) (by rw [List.length_set,HIV.out.dl];exact HLN.out.1)
              rw [BF.getD_set _ _ _ _ (by rw [HIV.out.dl];exact HLN.out.2),if_neg (Ne.symm hne),HDD.out.1] at ca3
              have q1:=hs2.a.bk.cell 1;have q2:=hs2.a.bk.cell 2;have q3:=Gi hs2.bT (i:=j) (by rw [List.length_map,HES.out.1];exact hlt)
              have q4:=Gi hs2.bH (i:=j) (by rw [List.length_map,HES.out.1];exact hlt)
              rw [hja] at q3;rw [hjz] at q4;have q5:=((HX9.out.far (p:=⟨gA,ez,none⟩) (HX9.out.ne hU.a.bA (by decide)) (.int .i64 (da+x.most))).far (p:=⟨gB,ez,none⟩) (HX9.out.ne hU.a.bB (by decide)) (.int .i64 j)).cell 4
              simp at q1 q2 q5;have T2:((V2.setCell ⟨gA,ez,none⟩ (.int .i64 (da+x.most))).setCell ⟨gB,ez,none⟩ (.int .i64 j)).drew.cell? ⟨r,1,none⟩=some (.slice (some ⟨gA,0,none⟩) n n)/\((V2.setCell ⟨gA,ez,none⟩ (.int .i64 (da+x.most))).setCell ⟨gB,ez,none⟩ (.int .i64 j)).drew.cell? ⟨r,2,none⟩=some (.slice (some ⟨gB,0,none⟩) n n)/\((V2.setCell ⟨gA,ez,none⟩ (.int .i64 (da+x.most))).setCell ⟨gB,ez,none⟩ (.int .i64 j)).drew.cell? ⟨gT,j,none⟩=some (.int .i64 ea)/\((V2.setCell ⟨gA,ez,none⟩ (.int .i64 (da+x.most))).setCell ⟨gB,ez,none⟩ (.int .i64 j)).drew.cell? ⟨gH,j,none⟩=some (.int .i64 ez)/\((V2.setCell ⟨gA,ez,none⟩ (.int .i64 (da+x.most))).setCell ⟨gB,ez,none⟩ (.int .i64 j)).drew.cell? ⟨gA,ea,none⟩=some (.int .i64 da)/\((V2.setCell ⟨gA,ez,none⟩ (.int .i64 (da+x.most))).setCell ⟨gB,ez,none⟩ (.int .i64 j)).drew.cell? ⟨q18,4,none⟩=some (.int .i64 x.most):=⟨q1,q2,q3,q4,ca3,q5⟩;have HS2:Hid (RlxB W n gm (some ⟨b6,o6,none⟩) L.length lc turned r gA gB gT gH (BF.passK Di es (j+1) ⟨t.d,t.p,false⟩).d (BF.passK Di es (j+1) ⟨t.d,t.p,false⟩).p (es.map fun e=>(e.a:Int)) (es.map fun e=>(e.z:Int)) ((V2.setCell ⟨gA,ez,none⟩ (.int .i64 (da+x.most))).setCell ⟨gB,ez,none⟩ (.int .i64 j)).drew):=Hd (by rw [HNX.out];exact hs2.below (As (Below.refl _ _) 1))
              clear hs2 ca3 q1 q2 q3 q4 q5;clear hU he hja hjz hs ca2 r1' r2' ct' chh' x4';generalize (BF.passK Di es j ⟨t.d,t.p,false⟩).p.getD ez 0=op at *;go_upto_region 17 with fail
              have hwr:IntKind.i64.wrap (da+x.most)=da+x.most:=IntWalk.i64_in _ ⟨by omega,by omega⟩
              go_region_held3 (fun w'=>w'.cell? ⟨r,1,none⟩=some (.slice (some ⟨gA,0,none⟩) n n)/\w'.cell? ⟨r,2,none⟩=some (.slice (some ⟨gB,0,none⟩) n n)/\w'.cell? ⟨gT,j,none⟩=some (.int .i64 ea)/\w'.cell? ⟨gH,j,none⟩=some (.int .i64 ez)/\w'.cell? ⟨gA,ea,none⟩=some (.int .i64 da)/\w'.cell? ⟨q18,4,none⟩=some (.int .i64 x.most))
               (first | with_reducible exact T0 | with_reducible exact T1 | with_reducible exact T2)
               (fail)
              clear T0 T1 T2 hwr fa fb la lb r1 r2 x4 ct chh ca cz cp;generalize ((V2.setCell ⟨gA,ez,none⟩ (.int .i64 (da + x.most))).setCell ⟨gB,ez,none⟩ (.int .i64 j)).drew=V4 at *;have hch:(BF.passK Di es (j+1) ⟨t.d,t.p,false⟩).ch=true:=by rw [HNX.out]
              have HCH1:=Hd hch;clear hch;have y2:=(HGW.out V4 HS2.out.a.bl).1.cell 2;have yl:=(HGW.out V4 HS2.out.a.bl).1.lt;simp at y2
              by_cases hlast:n<k
              ·as_aux_lemma =>
                have hkI2:(n:Int)<k:=by omega
                have hbk:=HRt.out.back HRG.out hlast (k:=j) (e:=edF N turned x) HEJ.out (by rw [HAA.out.1,HDD.out.1];exact HN1.out.1) (by rw [HAA.out.1,HAA.out.2,HDD.out.1,HDD.out.2,(HAZ.out x).2.2];have:=HN1.out.2;omega)
                rw [HAA.out.2] at hbk;have hRn:R=none:=HRt.out.loop hlast (k:=j+1) (by rw [HES.out.1];exact hlt) HCH1.out
                have hinv2:=(HRt.out.mid HRG.out (j+1) (by rw [HES.out.1];exact hlt)).1
                have hCI:CycI r n (BF.passK Di es (j+1) ⟨t.d,t.p,false⟩) es L turned (.map (some gm)) (some ⟨gA,0,none⟩) n (some ⟨gB,0,none⟩) n (some ⟨b6,o6,none⟩) lc (some ⟨gT,0,none⟩) V4 :=
                 ⟨HS2.out.a.bk,fun _=>⟨gB,0,rfl,HS2.out.a.bB.lt,fun i u hu=>by rw [Nat.zero_add,HS2.out.a.bB.cell i];simpa using hu⟩,(HGW.out V4 HS2.out.a.bl).2.2,fun _=>⟨gT,0,rfl,HS2.out.bT.lt,fun i u hu=>by rw [Nat.zero_add,HS2.out.bT.cell i];simpa using hu⟩⟩
                have hcyc:=cycle_any r n ez s Di (BF.passK Di es (j+1) ⟨t.d,t.p,false⟩) es L turned (.map (some gm)) (some ⟨gA,0,none⟩) n (some ⟨gB,0,none⟩) n (some ⟨b6,o6,none⟩) lc (some ⟨gT,0,none⟩) L.length V4 hCI hinv2 HES.out.1 (by omega) (by omega) hbk.1 hbk.2
                rw [HES.out.1] at hcyc;have HCY:=Hd hcyc;have chh:=Gi HS2.out.bH (i:=j) (by rw [List.length_map,HES.out.1];exact hlt)
                have hjz:(es.map fun e=>(e.z:Int)).getD j 0=ez:=by
                 rw [List.getD_eq_getElem?_getD,List.getElem?_map,HEJ.out,<- HAA.out.2];rfl
                rw [hjz] at chh;have HE:=Hd (fun (V:World) (g n c:Nat) (h:Below V4.heap.size V4 V) (hn:1<=n)=>(show RlxP N turned L w (.returned (.tuple #[.pointer none,.slice (some ⟨g,0,none⟩) n c])) V from
                 ⟨HBW.out.trans ((Bc HS2.out.a.bl h).mono HBW.out.size),.inr ⟨by rw [HRR.out];exact hRn,g,n,c,hn,rfl⟩⟩))
                clear hbk hRn hinv2 hCI hcyc hjz;go_wp2_with (go_at_call 194;refine HCY.out.mono ?_;rintro e w7 ⟨hb7,g7,n7,c7,hn7,rfl⟩);rw [Exit.noGoto_ret];go_ret2;exact HE.out _ _ _ _ hb7 hn7
              ·as_aux_lemma =>
                have hkI2:¬ (n:Int)<k:=by omega
                go_wp2_with fail;go_roundw
                case rel=>exact ⟨j+1,by omega,by go_num,by rw [HCH1.out],HS2,Hd (fun h=>absurd h hlast)⟩
                case measure=>simp [intOf];omega
          ·obtain rfl:j=L.length:=by omega
           have hcE:BF.passK Di es L.length ⟨t.d,t.p,false⟩=BF.passK Di es es.length ⟨t.d,t.p,false⟩:=by rw [HES.out.1]
           cases hch:(BF.passK Di es L.length ⟨t.d,t.p,false⟩).ch with
           | false =>
            as_aux_lemma =>
             rw [hcE] at hch;have hdone:=HRt.out.done hch;have HE:Hid (RlxP N turned L w (.returned (.tuple #[.pointer (some ⟨r,0,none⟩),.slice none 0 0])) wr):=Hd (by
              have hdl:=((HRt.out.mid HRG.out es.length Le).1).dl;rw [hcE] at HI;refine ⟨HBW.out.trans (HI.out.a.bl.mono HBW.out.size),.inl ⟨_,r,by rw [HRR.out];exact hdone,rfl,⟨gm,some ⟨gA,0,none⟩,some ⟨gB,0,none⟩,LA,n,n,n,L.length,lc,.bool turned,?_,(HGW.out wr HI.out.a.bl).2.1,?_⟩⟩⟩
              ·rw [hdl];exact HI.out.a.bk
              ·exact ⟨fun _=>⟨gA,0,rfl,HI.out.a.bA.lt,fun i u hu=>by rw [Nat.zero_add,HI.out.a.bA.cell i];simpa using hu⟩,fun x hx=>by injection hx with hx;subst hx;exact ⟨_,HI.out.a.bA⟩⟩)
             clear hdone hcE hch HI HCH;go_wp2_with fail;rw [Exit.noGoto_ret];go_ret2;exact HE.out
           | true =>
            as_aux_lemma =>
             have hkn2:¬ n<k:=fun h=>by rw [HCH.out h] at hch;cases hch
             rw [hcE] at hch;have HNX:=Hd (Ai (HRt.out.next HRG.out (by omega) hch) (show RlxB W n gm LA L.length lc turned r gA gB gT gH (BF.passK Di es es.length ⟨t.d,t.p,false⟩).d (BF.passK Di es es.length ⟨t.d,t.p,false⟩).p (es.map fun e=>(e.a:Int)) (es.map fun e=>(e.z:Int)) wr from hcE ▸ HI.out))
             clear hcE hch HI HCH;go_wp2_with fail;go_roundw
             case rel=>exact ⟨k+1,_,by go_num,HNX⟩
             case measure=>simp [intOf];omega
end Go.Proofs.YteihcodicfoiaaaGreat
