/-
  What is proved: the contract of register.
-/
import Derived.Test.YteihcodicfoiaaaGreat34Mf
namespace Go.Proofs.YteihcodicfoiaaaGreat
set_option maxRecDepth 100000
set_option maxHeartbeats 16000000
open Go Go.RowKit
open Go.RowKit Go.Shelf
attribute [local go_sem] Oper.semAt_some
theorem info66n:(Tryz.prog.info? 66).map (fun i=>(i.zero,i.size,i.bytes))=some (some (.agg #[.int .i64 0,.int .i64 0]),2,16):=by kernel_rfl
theorem wpList_append_nothing {ops:Array Oper} {rest:List Oper} {o:Oper} {a:Act} {w:World} {Q:Exit->Act->World->Prop} (hgd:o.guard=none) (s x:Operand) (t e:TypeId) (i:TypeInfo)
  (ho:o.op=.call { callee:=.builtin .append,args:=#[s,x],argTypes:=#[t,t] }) (ht:Tryz.prog.underlying t=some (.slice e)) (hi:Tryz.prog.info? e=some i) {base size n c:Nat} {A:Option Addr} {xs:List Value}
  (hs:a.eval s=.slice A n c) (hx:a.eval x=.slice none 0 0) (h:w.ownsRow base e size (.slice A n c) n xs) (hK:wpList Tryz.prog ops Q rest (a.put o.dst (.slice A n c)) w):wpList Tryz.prog ops Q (o :: rest) a w :=
 wpList_plain hgd fun K hK'=>by
  have h1:=step_append_nothing (E:=True) (ops:=ops) (Q:=Q) hgd s x t e i ho ht hi hs hx h (hK' _ _ hK)
  rwa [if_pos (by simp [Region.wanted,hgd])] at h1
theorem wp_normal {c:Code} {Q:Exit->Act->World->Prop} {a:Act} {w:World} (h:c.wp Tryz.prog (fun e a w=>e=.normal/\Q .normal a w) a w):c.wp Tryz.prog Q a w :=
 Code.wp_mono (fun e a w h=>by obtain ⟨rfl,h⟩:=h;exact h) h
attribute [local go_sem ↓] Kg Dm Bu store_at70 Dh
theorem register_any (l:List Ab) (p g gj k c:Nat) (J:Br) (A:Option Addr) (day:Int) (w:World) (hb:Bk w p 190 #[.map (some g),.map (some gj),.slice A k c]) (hm:Bv w g (Cp l)) (hj:Bv w gj J) (hJ:∃ D:List Ab,D.Perm l/\Fs l D J)
  (hnd:(l.map Ab.name).Nodup) (hlen:l.length<=400) (hat:∀ n∈l,n.At w) (hok:∀ n∈l,NoteOk day n) (hvac:∃ base xs,w.ownsRow base 66 2 (.slice A k c) k xs/\Nms k xs) (hk:k<=l.length) :
  Calls Tryz.prog 45 #[.pointer (some ⟨p,0,none⟩),.int .i64 day] w (RegisterP l w):=by
 obtain ⟨w0,hw0⟩:∃ w0,((w.alloc (.cells #[.int .i64 day] 3)).alloc (.cells #[.slice none 0 0,.slice none 0 0,.slice none 0 0] 49)).alloc (.cells #[.slice none 0 0,.slice none 0 0,.slice none 0 0] 49)=w0:=⟨_,rfl⟩;have hB0:Below w.heap.size w w0:=by rw [<- hw0];exact (Ba.alloc (by simp) _).alloc (by simp;omega) _
 have D0:Bk w0 w.heap.size 3 #[.int .i64 day]:=by rw [<- hw0];exact ((Aa rfl).alloc _).alloc _
 have R0:Bk w0 (w.heap.size+1) 49 #[.slice none 0 0,.slice none 0 0,.slice none 0 0]:=by rw [<- hw0];exact (Aa (by simp)).alloc _
 have G0:Bk w0 (w.heap.size+1+1) 49 #[.slice none 0 0,.slice none 0 0,.slice none 0 0]:=by rw [<- hw0];exact Aa (by simp)
 have hp1:w.heap.size+1<w.heap.size+1+1:=by omega
 have hp2:w.heap.size+1+1<w0.heap.size:=by rw [<- hw0];simp
 have HW:=Hd hw0;have HEF:=Hd (effects_any w0);have hstr:∀ n∈l,n.strokes.length<=65536:=fun n hn=>by have:=(hok n hn).2.2;omega
 have HEV:=Hd (fun (X:World) (h:Below w.heap.size w X)=>events_any l p g gj J (.slice A k c) X (hb.keep h) (hm.below h) (hj.below h) hJ hnd hlen (fun n hn=>(hat n hn).below h) hstr)
 have HP:=Hd (Ai hb (Ai hok (Ai hvac (Ai hB0 (Ai D0 (Ai R0 G0))))));have hplt:=hb.lt;clear hw0 hb hm hj hJ hnd hat hok hvac hstr hB0 D0 R0 G0;refine (callsIn_wide (n:=3)).1 ?_;refine callsIn_of_wp_marks Tryz.func45 rfl trivial ?_ rfl;simp only [Tryz.ntmps45,List.size_toArray,List.length_cons,List.length_nil,Nat.reduceAdd,Nat.reduceSub,Array.replicate_succ,Array.replicate_zero,List.push_toArray,List.append_toArray,List.nil_append,List.cons_append];refine wpIn_wide.2 ?_;go_upto_region 2 with fail
 rw [HW.out];clear HW;generalize w.heap.size + 1 + 1=pr at *;go_upto_region 3 with (go_at_call 87;refine HEF.out.mono ?_;rintro e w1 ⟨hb1,tab1,P1,rfl⟩)
 have hb1w:=HP.out.2.2.2.1.trans (hb1.mono HP.out.2.2.2.1.size);have hb2:Below w1.heap.size w1 (w1.alloc (.cells #[.map (some (w0.heap.size+1))] 194)):=Ba;have Q2:Bk (w1.alloc (.cells #[.map (some (w0.heap.size+1))] 194)) w1.heap.size 194 #[.map (some (w0.heap.size+1))]:=Aa rfl;have hs1:w0.heap.size+1<w1.heap.size:=by obtain ⟨es,cc,he,_⟩:=tab1;exact (Array.getElem?_eq_some_iff.1 he).1
 have tab2:=tab1.below hb2;have P2:=P1.keep hb2;have hb2w:=hb1w.trans (hb2.mono hb1w.size);have hb02:=hb1.trans (hb2.mono hb1.size);have HV2:=Hd (HEV.out _ hb2w);obtain ⟨q6,hq6⟩:∃ q,w1.heap.size=q:=⟨_,rfl⟩;have HK2:=Hd (Ai tab2 (Ai P2 (Ai Q2 (Ai hb2w hb02))));clear HEF HEV tab1 P1 hb1 hb1w hb2 Q2 tab2 P2 hb2w hb02;rw [hq6] at HK2 ⊢;have hs1':w0.heap.size+1<q6:=by omega
 have hs2:q6<(w1.alloc (.cells #[.map (some (w0.heap.size+1))] 194)).heap.size:=by simp [hq6]
 generalize w1.alloc (.cells #[.map (some (w0.heap.size + 1))] 194)=w2 at *;clear hq6 hs1;go_wp2_with (go_at_call 88;refine HV2.out.mono ?_;rintro e w3 ⟨L,AL,cL,hb3,X3,N3,T3,A3,hLl,hperm,hsort,rfl⟩);have hqe:Bk w3 w2.heap.size 42 #[.slice AL L.length cL]:=X3;have hb3w:=HK2.out.2.2.2.1.trans (hb3.mono HK2.out.2.2.2.1.size);have hb03:=HK2.out.2.2.2.2.trans (hb3.mono HK2.out.2.2.2.2.size);have hLk:=evs_ok_plain HP.out.2.1 hperm;have HU:=Hd (show TabAt w3 (w0.heap.size+1) (tabL w0.heap.size)/\Bk w3 w0.heap.size 199 #[.func (.func 130) #[] #[]]/\Bk w3 q6 194 #[.map (some (w0.heap.size+1))]/\Bk w3 w.heap.size 3 #[.int .i64 day]/\Bk w3 (w.heap.size+1) 49 #[.slice none 0 0,.slice none 0 0,.slice none 0 0]/\Bk w3 pr 49 #[.slice none 0 0,.slice none 0 0,.slice none 0 0]/\Below w.heap.size w w3 from
  ⟨HK2.out.1.below hb3,HK2.out.2.1.keep hb3,HK2.out.2.2.1.keep hb3,HP.out.2.2.2.2.1.keep hb03,HP.out.2.2.2.2.2.1.keep hb03,HP.out.2.2.2.2.2.2.keep hb03,hb3w⟩)
 have HL:=Hd (Ai N3 (Ai T3 (Ai A3 (Ai hperm (Ai hsort hLk)))));have hszU:=hb3.size;have hqe1:=hqe.lt;have R0:Ez w3.heap.size pr [] [] [] ⟨none,0,none,0,none,0⟩ w3:=⟨⟨by omega,Nat.le_refl _⟩,HU.out.2.2.2.2.2.1,World.ownsRow_nil _ _ _ _,World.ownsRow_nil _ _ _ _,World.ownsRow_nil _ _ _ _,(fun k hk=>by simp [Value.ownBlock] at hk),(fun e he=>by rcases he with h | h<;>cases h)⟩
 have HEK:=Hd (fun (m:Ab) (hm:m∈L) (X:World) (hX:Cm w3.heap.size pr w3 X)=>(show m.At X/\m.StrT X from
  Gn ⟨HL.out.1.str m hm,HL.out.2.1 m hm⟩ (fun q t cs hq ht=>hX.block q hq.lt (by rintro rfl;subst ht;have:=hq.symm.trans HU.out.2.2.2.2.2.1;simp at this)) hX.size))
 have hqe2:w2.heap.size<w3.heap.size/\w2.heap.size≠pr:=⟨hqe1,by omega⟩
 have hA2:∀ a,AL=some a->a.block<w3.heap.size/\a.block≠pr:=fun a ha=>by have:=A3 a ha;omega
 have hL4:L.length<=400:=by omega
 have HQ:=Hd hqe;have HQ2:=Hd (Ai hqe2 hA2);clear X3 hb3 hb3w hb03 hLk N3 T3 A3 hperm hsort HK2 HV2 hqe hqe2 hA2;refine (wpIn_wide (n:=3)).1 ?_;refine wpIn_rangeFunc_ownH rfl (by omega) (gf:=137) (lb:=#[.pointer (some ⟨w2.heap.size,0,none⟩)]) rfl trivial (enters_of Tryz.func137 (by kernel_rfl) rfl)
  (encs:=evEnc L) (Kp:=Cm w3.heap.size pr) (S:=fun xs=>xs=List.finRange L.length) (Sp:=fun pre=>pre <+: List.finRange L.length) (N:=L.length) (w0:=w3)
  (events1_stops (3 - 1) w3.heap.size pr w2.heap.size cL L AL w3 Le HQ.out HQ2.out.1 HL.out.1.row HQ2.out.2 hL4)
  ?k1 ?k2 (Below.refl _ _) (fun _=>rfl)
  (fun pre W=>∃ C z,Ez w3.heap.size pr (Jw L pre).1 (Jw L pre).2 C z W/\Cm w3.heap.size pr w3 W/\C.length<=pre.length)
  (fun _ _ _=>False)
  ?I ?Ix ⟨[],_,R0,Cm.refl _ _ _,Nat.le_refl _⟩
  (fun x a' W=>∃ q7,w3.heap.size<=q7/\Bk W q7 70 (Ay (L[x.1]'x.2)).cells.toArray/\a' = { tmps:=#[.pointer (some ⟨p,0,none⟩),.int .i64 day,undef,.pointer (some ⟨w.heap.size,0,none⟩),.pointer (some ⟨w.heap.size+1,0,none⟩),.pointer (some ⟨pr,0,none⟩),.pointer (some ⟨q6,0,none⟩),.pointer (some ⟨q7,0,none⟩),.map (some (w0.heap.size+1)),.pointer (some ⟨p,0,none⟩),.func (.func 137) #[] #[.pointer (some ⟨w2.heap.size,0,none⟩)],.agg (Ay (L[x.1]'x.2)).cells.toArray,undef,undef,undef,undef,undef,undef,undef,undef,undef,undef,undef,undef,undef,undef,undef,undef,undef,undef,undef,undef,undef,undef,undef,undef,undef,undef,undef,undef,undef,undef,undef,undef,undef,undef],defers:=[] })
  ?Ax ?assign ?body ?done ?stop
 case k1=>exact fun h k=>h.trans k
 case k2 =>
  intro X l' o o' hl hX hc _;have:=(Array.getElem?_eq_some_iff.1 hX).1;exact Cm.grown (grownBy_putObj' X l' o') (by omega) (fun r e=>by injection e with e;omega)
 case I =>
  rintro pre X X' row ⟨C,z,hR,hK,hC⟩ hg hr;exact ⟨C,z,hR.grownO hg (fun r e=>(hr r e).2),hK.trans (Cm.grown hg hR.lt.2 (fun r e=>.inl (hr r e).1)),hC⟩
 case Ix=>exact fun _ _ _ _ _ h _ _=>h
 case Ax =>
  rintro x a' _ X X' row ⟨q7,h1,h2,h3⟩ hg hr;refine ⟨q7,h1,h2.grown hg (fun e=>?_),h3⟩
  obtain ⟨o,ho,hc⟩:=(hr _ e.symm).2;have:=h2.symm.trans ho;simp at this;rw [<- this] at hc;simp [Obj.isCells] at hc
 case assign =>
  rintro l' pre x X K ⟨C,z,hR,hK,hC⟩ hKK;unfold evEnc;have hn0:=hR.lt.2;have hBa:Below X.heap.size X ((X.alloc (.cells z70 70)).setRow X.heap.size (Ay (L[x.1]'x.2)).cells.toArray):=Aq Ba Le _;have Y:Bk ((X.alloc (.cells z70 70)).setRow X.heap.size (Ay (L[x.1]'x.2)).cells.toArray) X.heap.size 70 (Ay (L[x.1]'x.2)).cells.toArray:=Bj (Aa rfl) _;have s1:=Be (ty:=70) (cs:=(Ay (L[x.1]'x.2)).cells.toArray) (Aa (w:=X) (t:=70) (cs:=z70) rfl) (by kernel_rfl) rfl (by rw [<- Array.all_toList,List.all_eq_true];exact fun v hv=>Jr _ v (by simpa using hv))
  have HX:=Hd (show KeepsFrom w3.heap.size X ((X.alloc (.cells z70 70)).setRow X.heap.size (Ay (L[x.1]'x.2)).cells.toArray)/\Cm w3.heap.size pr X ((X.alloc (.cells z70 70)).setRow X.heap.size (Ay (L[x.1]'x.2)).cells.toArray)/\Ez w3.heap.size pr (Jw L pre).1 (Jw L pre).2 C z ((X.alloc (.cells z70 70)).setRow X.heap.size (Ay (L[x.1]'x.2)).cells.toArray)/\Bk ((X.alloc (.cells z70 70)).setRow X.heap.size (Ay (L[x.1]'x.2)).cells.toArray) X.heap.size 70 (Ay (L[x.1]'x.2)).cells.toArray from ⟨(Dz hBa).from _,Cm.of_below (hBa.mono hn0),hR.below hBa,Y⟩)
  clear hBa Y;gi_wp2;exact hKK _ _ HX.out.1 HX.out.2.1 ⟨C,z,HX.out.2.2.1,hK.trans HX.out.2.1,hC⟩ ⟨X.heap.size,hn0,HX.out.2.2.2,rfl⟩
 case body =>
  rintro l' pre x a' X hlz hrec ⟨C,z,hR,hKp,hC⟩ ⟨q7,hq7,Y7,rfl⟩ hlt;obtain ⟨nx,hnx⟩:∃ nx,L[x.1]'x.2=nx:=⟨_,rfl⟩;rw [hnx] at Y7 ⊢;have hmL:nx∈L:=by rw [<- hnx];exact List.getElem_mem _
  have HNX:=Hd hnx;have he:=HEK.out nx hmL X hKp;have hln:=evFin_len L pre;have hkk:=HL.out.2.2.2.2.2 nx hmL;have hsz3:=hR.lt;have htab:TabAt X (w0.heap.size+1) (tabL w0.heap.size):=HU.out.1.kept hKp (by omega) (by omega)
  have hpa:Bk X w0.heap.size 199 #[.func (.func 130) #[] #[]]:=hKp.bk HU.out.2.1 (by omega) (by omega)
  have y0:=(hKp.bk HU.out.2.2.1 (by omega) (by omega)).cell 0
  have y3:=(hKp.bk HU.out.2.2.2.1 (by omega) (by omega)).cell 0
  have x5:=Y7.cell 5;have x6:=Y7.cell 6;simp [EvD.cells,Ab.arr,Ay] at x5 x6 y0 y3;have le7:=Fg _ Y7;have HKP:=Hd hKp;have HY7:=Hd Y7;have hday:nx.day<=day:=hkk.1;clear hKp hnx hmL hrec Y7 HQ HQ2 R0 HEK;have hkc:nx.kind=1\/nx.kind=2\/nx.kind=3\/nx.kind=4:=by omega
  rcases hkc with hkd | hkd | hkd | hkd
  ·have hk1:(Ay nx).note.kind=1:=hkd;have tl:=tab_look htab 1 (v:=.func (.func 131) #[] #[]) ⟨0,rfl⟩;have HC:=Hd (eff_1 (s:=Jw L pre) (Ay nx) hR he hk1 hln.1);rw [hkd] at x6;clear hk1 hkd hR htab hpa he;cases hok:evOk (Jw L pre) (Ay nx) with
   | true =>
    rw [hok] at HC;clear hok;gi_wp2;refine ⟨trivial,(CallsIn.inRound l' (callsIn_wide.2 HC.out)).mono ?_⟩;rintro e X2 ⟨rfl,k2,o2,⟨z2,R2⟩,b2⟩;have H2:=Hd (Ai k2 (Ai o2 R2));clear k2 o2 R2 b2 HC tl x5 x6 y0 y3 le7;gi_wp2;exact ⟨H2.out.2.1.from _,H2.out.1,⟨C,z2,by rw [Kj,HNX.out];exact H2.out.2.2,HKP.out.trans H2.out.1,by simp;omega⟩⟩
   | false =>
    rw [hok] at HC;clear hok;gi_wp2;refine ⟨trivial,(CallsIn.inRound l' (callsIn_wide.2 HC.out)).mono ?_⟩;rintro e X2 ⟨rfl,k2,o2,⟨z2,R2⟩,b2⟩;have b2':Below X.heap.size X X2:=b2 rfl;have Y2:=HY7.out.keep b2';have hsX2:=b2'.size;obtain ⟨i0,hi0,hz0,hz1,hz2⟩:=info_parts info66n;have c2:=R2.rg.cell 2;have n0:=(Kr Y2).1;have n1:=(Kr Y2).2;simp [Ep,Ay] at c2 n0 n1;have H2:=Hd (Ai k2 (Ai o2 (Ai R2 Y2)));clear k2 o2 R2 Y2 b2 b2' HC tl x5 x6 y0 y3 le7;have hq2:q7<X2.heap.size:=H2.out.2.2.2.lt;have hp2':pr<X2.heap.size:=H2.out.2.2.1.rg.lt;gi_wp2_with (gi_at_builtin;refine wpListIn_append_own _ rfl _ _ 47 rfl w3.heap.size 66 i0 _ 2 16 Tryz.underlying47 hi0 hz0 hz1 hz2 rfl (by decide) (.slice z2.A3 C.length z2.c3) C.length (C.flatMap Dl) rfl (Ca H2.out.2.2.1.cs ((Below.refl _ _).alloc Le (.cells #[.int .i64 nx.house,.int .i64 nx.num] 66))) ⟨X2.heap.size,0,none⟩ 1 1 [.int .i64 nx.house,.int .i64 nx.num] rfl rfl (pair_at _ _ _ _ 66 (Aa rfl)) (by simp [Value.oneCell']) (by unfold maxLen;omega) (by omega) (by have:=H2.out.2.2.1.lt.2;simp;omega) ?_;intro v6 w6 hown6 hg6 _;obtain ⟨A6,c6,rfl,_,_,_⟩:=Au hown6;have hBx:Below X2.heap.size X2 (X2.alloc (.cells #[.int .i64 nx.house,.int .i64 nx.num] 66)):=Ba;have R6:=H2.out.2.2.1.below hBx;have B7:=rg_push R6 R6.cs Le hg6;have c4:=B7.cell 2;have f4:=B7.fz 2;have l4:=B7.lt;simp [Ep] at c4;have KP:=keep_push R6 R6.cs Le hg6 2 (.slice A6 (C.length+1) c6);have R7:=R6.rowC (C':=C ++ [(nx.house,nx.num)]) (A3:=A6) (c3:=c6) (by simpa [Dl] using hown6) hg6;have HEND:=Hd (Ai hBx (Ai KP R7));clear hBx R6 B7 KP R7 hown6 hg6)
    obtain ⟨hBx,KP,R7⟩:=HEND.out;rw [show (C ++ [(nx.house,nx.num)]).length=C.length+1 by simp] at R7
    have kk:=(H2.out.1.trans (Cm.of_below (p:=pr) (hBx.mono H2.out.2.2.1.lt.2))).trans KP.1;exact ⟨((H2.out.2.1.trans (Dz hBx)).trans KP.2).from _,kk,⟨_,_,by rw [Kj,HNX.out];exact R7,HKP.out.trans kk,by simp;omega⟩⟩
  ·have hk1:(Ay nx).note.kind=2:=hkd;have tl:=tab_look htab 2 (v:=.func (.func 132) #[] #[.pointer (some ⟨w0.heap.size,0,none⟩)]) ⟨1,rfl⟩;have HC:=Hd (eff_2 (s:=Jw L pre) (Ay nx) w0.heap.size hR he hk1 hln.1 (by omega) hpa)
   rw [hkd] at x6;clear hk1 hkd hR htab hpa he;cases hok:evOk (Jw L pre) (Ay nx) with
   | true =>
    rw [hok] at HC;clear hok;gi_wp2;refine ⟨trivial,(CallsIn.inRound l' (callsIn_wide.2 HC.out)).mono ?_⟩;rintro e X2 ⟨rfl,k2,o2,⟨z2,R2⟩,b2⟩;have H2:=Hd (Ai k2 (Ai o2 R2));clear k2 o2 R2 b2 HC tl x5 x6 y0 y3 le7;gi_wp2;exact ⟨H2.out.2.1.from _,H2.out.1,⟨C,z2,by rw [Kj,HNX.out];exact H2.out.2.2,HKP.out.trans H2.out.1,by simp;omega⟩⟩
   | false =>
    rw [hok] at HC;clear hok;gi_wp2;refine ⟨trivial,(CallsIn.inRound l' (callsIn_wide.2 HC.out)).mono ?_⟩;rintro e X2 ⟨rfl,k2,o2,⟨z2,R2⟩,b2⟩;have b2':Below X.heap.size X X2:=b2 rfl;have Y2:=HY7.out.keep b2';have hsX2:=b2'.size;obtain ⟨i0,hi0,hz0,hz1,hz2⟩:=info_parts info66n;have c2:=R2.rg.cell 2;have n0:=(Kr Y2).1;have n1:=(Kr Y2).2;simp [Ep,Ay] at c2 n0 n1;have H2:=Hd (Ai k2 (Ai o2 (Ai R2 Y2)));clear k2 o2 R2 Y2 b2 b2' HC tl x5 x6 y0 y3 le7;have hq2:q7<X2.heap.size:=H2.out.2.2.2.lt;have hp2':pr<X2.heap.size:=H2.out.2.2.1.rg.lt;gi_wp2_with (gi_at_builtin;refine wpListIn_append_own _ rfl _ _ 47 rfl w3.heap.size 66 i0 _ 2 16 Tryz.underlying47 hi0 hz0 hz1 hz2 rfl (by decide) (.slice z2.A3 C.length z2.c3) C.length (C.flatMap Dl) rfl (Ca H2.out.2.2.1.cs ((Below.refl _ _).alloc Le (.cells #[.int .i64 nx.house,.int .i64 nx.num] 66))) ⟨X2.heap.size,0,none⟩ 1 1 [.int .i64 nx.house,.int .i64 nx.num] rfl rfl (pair_at _ _ _ _ 66 (Aa rfl)) (by simp [Value.oneCell']) (by unfold maxLen;omega) (by omega) (by have:=H2.out.2.2.1.lt.2;simp;omega) ?_;intro v6 w6 hown6 hg6 _;obtain ⟨A6,c6,rfl,_,_,_⟩:=Au hown6;have hBx:Below X2.heap.size X2 (X2.alloc (.cells #[.int .i64 nx.house,.int .i64 nx.num] 66)):=Ba;have R6:=H2.out.2.2.1.below hBx;have B7:=rg_push R6 R6.cs Le hg6;have c4:=B7.cell 2;have f4:=B7.fz 2;have l4:=B7.lt;simp [Ep] at c4;have KP:=keep_push R6 R6.cs Le hg6 2 (.slice A6 (C.length+1) c6);have R7:=R6.rowC (C':=C ++ [(nx.house,nx.num)]) (A3:=A6) (c3:=c6) (by simpa [Dl] using hown6) hg6;have HEND:=Hd (Ai hBx (Ai KP R7));clear hBx R6 B7 KP R7 hown6 hg6)
    obtain ⟨hBx,KP,R7⟩:=HEND.out;rw [show (C ++ [(nx.house,nx.num)]).length=C.length+1 by simp] at R7
    have kk:=(H2.out.1.trans (Cm.of_below (p:=pr) (hBx.mono H2.out.2.2.1.lt.2))).trans KP.1;exact ⟨((H2.out.2.1.trans (Dz hBx)).trans KP.2).from _,kk,⟨_,_,by rw [Kj,HNX.out];exact R7,HKP.out.trans kk,by simp;omega⟩⟩
  ·have hk1:(Ay nx).note.kind=3:=hkd;have tl:=tab_look htab 3 (v:=.func (.func 130) #[] #[]) ⟨2,rfl⟩;have HC:=Hd (eff_3 (s:=Jw L pre) (Ay nx) hR he (by omega) (by omega) (by omega))
   rw [hkd] at x6;clear hk1 hkd hR htab hpa he;gi_wp2;refine ⟨trivial,(CallsIn.inRound l' (callsIn_wide.2 HC.out)).mono ?_⟩;rintro e X2 ⟨rfl,k2,o2,⟨z2,R2⟩,b2⟩;have H2:=Hd (Ai k2 (Ai o2 R2));clear k2 o2 R2 b2 HC tl x5 x6 y0 y3 le7;gi_wp2;exact ⟨H2.out.2.1.from _,H2.out.1,⟨C,z2,by rw [Kj,HNX.out];exact H2.out.2.2,HKP.out.trans H2.out.1,by simp;omega⟩⟩
  ·have hk1:(Ay nx).note.kind=4:=hkd;have tl:=tab_look htab 4 (v:=.func (.func 130) #[] #[]) ⟨3,rfl⟩;have HC:=Hd (eff_3 (s:=Jw L pre) (Ay nx) hR he (by omega) (by omega) (by omega))
   rw [hkd] at x6;clear hk1 hkd hR htab hpa he;gi_wp2;refine ⟨trivial,(CallsIn.inRound l' (callsIn_wide.2 HC.out)).mono ?_⟩;rintro e X2 ⟨rfl,k2,o2,⟨z2,R2⟩,b2⟩;have H2:=Hd (Ai k2 (Ai o2 R2));clear k2 o2 R2 b2 HC tl x5 x6 y0 y3 le7;gi_wp2;exact ⟨H2.out.2.1.from _,H2.out.1,⟨C,z2,by rw [Kj,HNX.out];exact H2.out.2.2,HKP.out.trans H2.out.1,by simp;omega⟩⟩
 case done =>
  rintro D xs0 X hD rfl ⟨C,z,hR,hKp,hC⟩ hK;rw [evFin_all] at hR;rw [List.length_finRange] at hC;obtain ⟨base,xs,hvo,Cn,hCl,hCx⟩:=HP.out.2.2.1;have hpw3:w.heap.size<w3.heap.size:=by omega
  have hBX:Below w.heap.size w X:=Cm.below HU.out.2.2.2.2.2.2 hKp (by omega) (by omega)
  have hbX:Bk X p 190 #[.map (some g),.map (some gj),.slice A k c]:=HP.out.1.keep hBX;have hR1:Bk X (w.heap.size+1) 49 #[.slice none 0 0,.slice none 0 0,.slice none 0 0]:=hKp.bk HU.out.2.2.2.2.1 (by omega) (by omega)
  have hVX:=Ca hvo hBX;have b2:=(hbX.drewN 1).cell 2;have c2:=(hR.rg.drewN 1).cell 2;have f2:=(hR.rg.drewN 1).fz 2;simp [Ep] at b2 c2 f2;have hpX:p<X.heap.size:=hbX.lt;have hprX:pr<X.heap.size:=hR.rg.lt;have hDX:D<X.heap.size:=(Array.getElem?_eq_some_iff.1 hK).1;obtain ⟨i0,hi0,hz0,hz1,hz2⟩:=info_parts info66n;have HX:=Hd (Ai hR (Ai hKp (Ai hBX (Ai hR1 (Ai hVX hK)))));have HC:=Hd (Ai hCl hCx);clear hR hKp hBX hbX hR1 hVX hK hvo hCl hCx R0 HQ HQ2 HEK;gi_wp2;go_upto_region 7 with fail
  have HRR:Hid (∃ (A6:Option Addr) (c6:Nat) (w6:World),True):=Hd ⟨none,0,X,trivial⟩;clear HRR;have hkn:Cn.length<=400:=by rw [HC.out.1];omega
  clear b2 c2 f2;have bb:=fun x:Ext X=>(show x.w.cell? ⟨p,2,none⟩=some (.slice A k c) from (((HP.out.1.keep HX.out.2.2.1).keep x.bel).cell 2).trans rfl)
  have cc:=fun x:Ext X=>(show x.w.cell? ⟨pr,2,none⟩=some (.slice z.A3 C.length z.c3) from ((HX.out.1.below x.bel).rg.cell 2).trans rfl)
  refine wp_normal ?_;refine By 6 (by kernel_rfl) (by kernel_rfl) (fun _ _ d _ _ h=>absurd h.1 (by simp)) ?_
  simp only [List.take_succ_cons,List.take_zero,List.drop_succ_cons,List.drop_zero];repeat (go_big_quiet_step (fail))
  refine wpQuiet_nil ?_;rintro _ ⟨yy,rfl⟩;clear bb cc;have hby:=yy.bel;generalize yy.w=Y at hby ⊢;have RD:=HX.out.1.below hby;have KY:Cm w3.heap.size pr w3 Y/\KeepsOthers X Y:=⟨HX.out.2.1.trans (Cm.of_below (hby.mono HX.out.1.lt.2)),Dz hby⟩;have f2:=RD.rg.fz 2;have l2:=RD.rg.lt;have c2:=RD.rg.cell 2;simp [Ep] at c2;cases A with
  | none =>
   have hk0:k=0/\c=0:=by
    rcases HX.out.2.2.2.2.1.2 with ⟨hv,h0⟩ | ⟨g',cap,cur,hv,_⟩
    ·injection hv with _ h2 h3
     exact ⟨h2,h3⟩
    ·cases hv
   obtain ⟨rfl,rfl⟩:=hk0;have R7:=RD.rowC (V':=Y) (C':=C) (A3:=z.A3) (c3:=z.c3) RD.cs (World.grownBy_refl _ _);have K7:=keep_push RD RD.cs Le (World.grownBy_refl Y _) 2 (.slice z.A3 C.length z.c3);have H7:=Hd (show Ez w3.heap.size pr (Bi (L.map Ay)).1 (Bi (L.map Ay)).2 C z (Y.setCell ⟨pr,2,none⟩ (.slice z.A3 C.length z.c3))/\Cm w3.heap.size pr w3 (Y.setCell ⟨pr,2,none⟩ (.slice z.A3 C.length z.c3))/\KeepsOthers X (Y.setCell ⟨pr,2,none⟩ (.slice z.A3 C.length z.c3))/\C.length<=1000 from ⟨R7,KY.1.trans K7.1,KY.2.trans K7.2,by omega⟩)
   refine wpList_append_nothing rfl _ _ 47 66 i0 rfl Tryz.underlying47 hi0 (n:=C.length) (A:=z.A3) (c:=z.c3) (by rfl) (by rfl) RD.cs ?_
   clear R7 K7 RD KY;go_upto_region 8 with fail
   focus
    generalize Y.setCell _ _=U7 at *;have c7:=H7.out.1.rg.cell 2;simp [Ep] at c7;have HS:=Hd (sortNames_any C z.A3 z.c3 w3.heap.size U7 H7.out.1.cs (by have:=H7.out.2.2.2;omega))
    clear c2 f2 l2 hpX hprX hDX hi0 hz0 hz1 hz2 hby;go_wp2_with fail;refine HS.out.mono ?_;rintro e w8 ⟨rfl,C8,hp8,hown8,hg8⟩;have R8:=H7.out.1.permC hp8.length_eq hown8 hg8;have l49:=Ct R8.rg rfl;have hK8:=H7.out.2.1.trans (Cm.grown (p:=pr) hg8 H7.out.1.lt.2 (fun r e=>.inl (H7.out.1.cs.lt r e).1))
    have T8:=(hK8.bk HU.out.2.2.2.2.1 (by omega) (by omega))
    have o8:=H7.out.2.2.1.trans (Ja H7.out.1.cs hg8);have t0:=T8.cell 0;have t1:=T8.cell 1;have t2:=T8.cell 2;have g0:=T8.fz 0;have g1:=T8.fz 1;have g2:=T8.fz 2;have gl:=T8.lt;simp at t0 t1 t2;unfold Ep at l49;have H8:=Hd (Ai R8 (Ai hK8 (Ai T8 o8)));clear R8 hK8 T8 o8 hp8 hown8 hg8 HS c7;go_wp2_with fail;have T9:=((H8.out.2.2.1.put 0 (.slice z.A1 (Bi (L.map Ay)).1.length z.c1)).put 1 (.slice z.A2 (Bi (L.map Ay)).2.length z.c2)).put 2 (.slice z.A3 C8.length z.c3);have R9:=((H8.out.1.far (q:=w.heap.size+1) (by omega) (by omega) H8.out.2.2.1 (by decide) 0 (.slice z.A1 (Bi (L.map Ay)).1.length z.c1)).far (q:=w.heap.size+1) (by omega) (by omega) (H8.out.2.2.1.put 0 _) (by decide) 1 (.slice z.A2 (Bi (L.map Ay)).2.length z.c2)).far (q:=w.heap.size+1) (by omega) (by omega) ((H8.out.2.2.1.put 0 _).put 1 _) (by decide) 2 (.slice z.A3 C8.length z.c3)
    have B9:=(((Cm.below HU.out.2.2.2.2.2.2 H8.out.2.1 (by omega) (by omega)).setCell (p:=⟨w.heap.size+1,0,none⟩) (by simp) (.slice z.A1 (Bi (L.map Ay)).1.length z.c1)).setCell (p:=⟨w.heap.size+1,1,none⟩) (by simp) (.slice z.A2 (Bi (L.map Ay)).2.length z.c2)).setCell (p:=⟨w.heap.size+1,2,none⟩) (by simp) (.slice z.A3 C8.length z.c3)
    have K9:=(((H8.out.2.2.2.trans (KeepsOthers.setCell _ ⟨w.heap.size+1,0,none⟩ (.slice z.A1 (Bi (L.map Ay)).1.length z.c1))).trans (KeepsOthers.setCell _ ⟨w.heap.size+1,1,none⟩ (.slice z.A2 (Bi (L.map Ay)).2.length z.c2))).trans (KeepsOthers.setCell _ ⟨w.heap.size+1,2,none⟩ (.slice z.A3 C8.length z.c3))).same D _ HX.out.2.2.2.2.2 rfl;clear l49 t0 t1 t2 g0 g1 g2 gl;generalize ((w8.setCell ⟨w.heap.size + 1,0,none⟩ (.slice z.A1 (Bi (L.map Ay)).1.length z.c1)).setCell ⟨w.heap.size + 1,1,none⟩ (.slice z.A2 (Bi (L.map Ay)).2.length z.c2)).setCell ⟨w.heap.size + 1,2,none⟩ (.slice z.A3 C8.length z.c3)=F at *;have d2:Bk (F.putObj D (.deferred none)) (w.heap.size+1) 49 _:=(World.putObj_heap_other (by omega)).trans T9
    have RF:=R9.grownO (grownBy_putObj' F D (.deferred none)) (fun r e=>by injection e with e;subst e;exact ⟨_,K9,rfl⟩)
    refine ⟨by simp,.inl ⟨_,_,rfl,run_takeDeferred K9,?_⟩⟩
    refine ⟨Dv z.A1 (Bi (L.map Ay)).1.length z.c1 z.A2 (Bi (L.map Ay)).2.length z.c2 z.A3 C8.length z.c3,results_cell_row rfl _ _ _ 49 _ (0,0) _ rfl d2 Tryz.underlying49 rfl (by kernel_rfl),?_⟩
    exact ⟨L,z.A1,z.c1,z.A2,z.c2,z.A3,C8.length,z.c3,HL.out.2.2.2.1,HL.out.2.2.2.2.1,⟨hLl,own_le RF.es⟩,(fun m hm=>(HL.out.2.2.2.2.2 m hm).2),B9.grown (grownBy_putObj' _ _ _) B9.size (fun r e=>by injection e with e;omega),⟨⟨Gu RF.hs,fun e he=>(RF.st e (.inl he)).1⟩,(fun a ha=>by have:=(Kc RF.hs a ha).1;omega),fun e he=>(RF.st e (.inl he)).2⟩,⟨⟨Gu RF.es,fun e he=>(RF.st e (.inr he)).1⟩,(fun a ha=>by have:=(Kc RF.es a ha).1;omega),fun e he=>(RF.st e (.inr he)).2⟩,rfl⟩
  | some ad =>
   obtain ⟨g9,rfl⟩:∃ g9,ad=⟨g9,0,none⟩:=by
    rcases HX.out.2.2.2.2.1.2 with ⟨hv,h0⟩ | ⟨g',cap,cur,hv,_⟩
    ·cases hv
    ·injection hv with hv
     injection hv with hv
     exact ⟨g',hv⟩
   obtain rfl:=HC.out.1;obtain rfl:=HC.out.2;have hcl9:=(Ca HX.out.2.2.2.2.1 hby).cells (g:=g9) rfl;have HL2:(Cn.flatMap Dl).length=Cn.length*2:=Ci Dl 2 nameEnc_len Cn;have HO1:∀ u∈Cn.flatMap Dl,u.oneCell'=true:=fun u hu=>by
    obtain ⟨x,_,hx⟩:=List.mem_flatMap.1 hu;simp [Dl] at hx;rcases hx with rfl | rfl<;>rfl
   refine wpList_append_own _ rfl _ _ 47 rfl w3.heap.size 66 i0 _ 2 16 Tryz.underlying47 hi0 hz0 hz1 hz2 rfl (by decide) (.slice z.A3 C.length z.c3) C.length (C.flatMap Dl) (by rfl) RD.cs ⟨g9,0,none⟩ Cn.length c (Cn.flatMap Dl) (by rfl) HL2 hcl9 HO1 (by unfold maxLen;omega) (by omega) RD.lt.2 ?_
   intro v6 w6 hown6 hg6 _;obtain ⟨A6,c6,rfl,_,_,_⟩:=Au hown6;have B7:=rg_push RD RD.cs Le hg6;have c4:=B7.cell 2;have f4:=B7.fz 2;have l4:=B7.lt;simp [Ep] at c4;have R7:=RD.rowC (C':=C ++ Cn) (A3:=A6) (c3:=c6) (by simpa using hown6) hg6
   have K7:=keep_push RD RD.cs Le hg6 2 (.slice A6 (C.length+Cn.length) c6);rw [List.length_append] at R7;have H7:=Hd (show Ez w3.heap.size pr (Bi (L.map Ay)).1 (Bi (L.map Ay)).2 (C ++ Cn) { z with A3:=A6,c3:=c6 } (w6.setCell ⟨pr,2,none⟩ (.slice A6 (C.length+Cn.length) c6))/\Cm w3.heap.size pr w3 (w6.setCell ⟨pr,2,none⟩ (.slice A6 (C.length+Cn.length) c6))/\KeepsOthers X (w6.setCell ⟨pr,2,none⟩ (.slice A6 (C.length+Cn.length) c6))/\(C ++ Cn).length<=1000 from ⟨R7,KY.1.trans K7.1,KY.2.trans K7.2,by simp;omega⟩)
   clear R7 K7 hown6 hg6 B7 hcl9 HL2 HO1 RD KY;go_upto_region 8 with fail
   focus
    clear c4 f4 l4;generalize w6.setCell _ _=U7 at *;obtain ⟨z7,hz7⟩:∃ z7:RegL,{ z with A3:=A6,c3:=c6 } = z7:=⟨_,rfl⟩
    have e1:z7.A3=A6:=by rw [<- hz7]
    have e2:z7.c3=c6:=by rw [<- hz7]
    rw [hz7] at H7;rw [<- List.length_append,<- e1,<- e2];clear hz7 e1 e2;generalize C ++ Cn=C7 at *;have c7:=H7.out.1.rg.cell 2;simp [Ep] at c7;have HS:=Hd (sortNames_any C7 z7.A3 z7.c3 w3.heap.size U7 H7.out.1.cs (by have:=H7.out.2.2.2;omega))
    clear c2 f2 l2 hpX hprX hDX hi0 hz0 hz1 hz2 hby;go_wp2_with fail;refine HS.out.mono ?_;rintro e w8 ⟨rfl,C8,hp8,hown8,hg8⟩;have R8:=H7.out.1.permC hp8.length_eq hown8 hg8;have l49:=Ct R8.rg rfl;have hK8:=H7.out.2.1.trans (Cm.grown (p:=pr) hg8 H7.out.1.lt.2 (fun r e=>.inl (H7.out.1.cs.lt r e).1))
    have T8:=(hK8.bk HU.out.2.2.2.2.1 (by omega) (by omega))
    have o8:=H7.out.2.2.1.trans (Ja H7.out.1.cs hg8);have t0:=T8.cell 0;have t1:=T8.cell 1;have t2:=T8.cell 2;have g0:=T8.fz 0;have g1:=T8.fz 1;have g2:=T8.fz 2;have gl:=T8.lt;simp at t0 t1 t2;unfold Ep at l49;have H8:=Hd (Ai R8 (Ai hK8 (Ai T8 o8)));clear R8 hK8 T8 o8 hp8 hown8 hg8 HS c7;go_wp2_with fail;have T9:=((H8.out.2.2.1.put 0 (.slice z7.A1 (Bi (L.map Ay)).1.length z7.c1)).put 1 (.slice z7.A2 (Bi (L.map Ay)).2.length z7.c2)).put 2 (.slice z7.A3 C8.length z7.c3);have R9:=((H8.out.1.far (q:=w.heap.size+1) (by omega) (by omega) H8.out.2.2.1 (by decide) 0 (.slice z7.A1 (Bi (L.map Ay)).1.length z7.c1)).far (q:=w.heap.size+1) (by omega) (by omega) (H8.out.2.2.1.put 0 _) (by decide) 1 (.slice z7.A2 (Bi (L.map Ay)).2.length z7.c2)).far (q:=w.heap.size+1) (by omega) (by omega) ((H8.out.2.2.1.put 0 _).put 1 _) (by decide) 2 (.slice z7.A3 C8.length z7.c3)
    have B9:=(((Cm.below HU.out.2.2.2.2.2.2 H8.out.2.1 (by omega) (by omega)).setCell (p:=⟨w.heap.size+1,0,none⟩) (by simp) (.slice z7.A1 (Bi (L.map Ay)).1.length z7.c1)).setCell (p:=⟨w.heap.size+1,1,none⟩) (by simp) (.slice z7.A2 (Bi (L.map Ay)).2.length z7.c2)).setCell (p:=⟨w.heap.size+1,2,none⟩) (by simp) (.slice z7.A3 C8.length z7.c3)
    have K9:=(((H8.out.2.2.2.trans (KeepsOthers.setCell _ ⟨w.heap.size+1,0,none⟩ (.slice z7.A1 (Bi (L.map Ay)).1.length z7.c1))).trans (KeepsOthers.setCell _ ⟨w.heap.size+1,1,none⟩ (.slice z7.A2 (Bi (L.map Ay)).2.length z7.c2))).trans (KeepsOthers.setCell _ ⟨w.heap.size+1,2,none⟩ (.slice z7.A3 C8.length z7.c3))).same D _ HX.out.2.2.2.2.2 rfl;clear l49 t0 t1 t2 g0 g1 g2 gl;generalize ((w8.setCell ⟨w.heap.size + 1,0,none⟩ (.slice z7.A1 (Bi (L.map Ay)).1.length z7.c1)).setCell ⟨w.heap.size + 1,1,none⟩ (.slice z7.A2 (Bi (L.map Ay)).2.length z7.c2)).setCell ⟨w.heap.size + 1,2,none⟩ (.slice z7.A3 C8.length z7.c3)=F at *;have d2:Bk (F.putObj D (.deferred none)) (w.heap.size+1) 49 _:=(World.putObj_heap_other (by omega)).trans T9
    have RF:=R9.grownO (grownBy_putObj' F D (.deferred none)) (fun r e=>by injection e with e;subst e;exact ⟨_,K9,rfl⟩)
    refine ⟨by simp,.inl ⟨_,_,rfl,run_takeDeferred K9,?_⟩⟩
    refine ⟨Dv z7.A1 (Bi (L.map Ay)).1.length z7.c1 z7.A2 (Bi (L.map Ay)).2.length z7.c2 z7.A3 C8.length z7.c3,results_cell_row rfl _ _ _ 49 _ (0,0) _ rfl d2 Tryz.underlying49 rfl (by kernel_rfl),?_⟩
    exact ⟨L,z7.A1,z7.c1,z7.A2,z7.c2,z7.A3,C8.length,z7.c3,HL.out.2.2.2.1,HL.out.2.2.2.2.1,⟨hLl,own_le RF.es⟩,(fun m hm=>(HL.out.2.2.2.2.2 m hm).2),B9.grown (grownBy_putObj' _ _ _) B9.size (fun r e=>by injection e with e;omega),⟨⟨Gu RF.hs,fun e he=>(RF.st e (.inl he)).1⟩,(fun a ha=>by have:=(Kc RF.hs a ha).1;omega),fun e he=>(RF.st e (.inl he)).2⟩,⟨⟨Gu RF.es,fun e he=>(RF.st e (.inr he)).1⟩,(fun a ha=>by have:=(Kc RF.es a ha).1;omega),fun e he=>(RF.st e (.inr he)).2⟩,rfl⟩
 case stop =>
  rintro D c' pre X hD hp h hK;exact h.elim
end Go.Proofs.YteihcodicfoiaaaGreat
