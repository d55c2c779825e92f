/-
  What is proved: the contract of sit.
-/
import Derived.Test.YteihcodicfoiaaaGreat25Mf
import Derived.Test.YteihcodicfoiaaaGreat21Mf
import Derived.Test.YteihcodicfoiaaaGreat2Mf
namespace Go.Proofs.YteihcodicfoiaaaGreat
set_option maxRecDepth 100000
set_option maxHeartbeats 8000000
open Go Go.RowKit
def Nms (k:Nat) (xs:List Value):Prop:=∃ Cn:List (Int×Int),Cn.length=k/\xs=Cn.flatMap Dl
theorem nms_snoc {k:Nat} {xs:List Value} (h:Nms k xs) (a b:Int):Nms (k+1) (xs ++ [.int .i64 a,.int .i64 b]):=by
 obtain ⟨Cn,h1,h2⟩:=h;exact ⟨Cn ++ [(a,b)],by simp [h1],by simp [h2,Dl]⟩
structure SitI (w:World) (g:Nat) (F D J:Br) (A:Option Addr) (k c:Nat) (V:World):Prop where
 rg:Dr V (w.heap.size+2) g F D
 bl:Below w.heap.size w V
 mp:Bv V w.heap.size J
 bn:Bk V (w.heap.size+1) 190 #[.map (some g),.map (some w.heap.size),.slice A k c]
 ow:∃ xs,V.ownsRow (w.heap.size+3) 66 2 (.slice A k c) k xs/\Nms k xs
theorem SitI.below {w:World} {g:Nat} {F D J:Br} {A:Option Addr} {k c:Nat} {V V':World} (h:SitI w g F D J A k c V) (hb:Below V.heap.size V V'):SitI w g F D J A k c V' :=
 ⟨h.rg.below hb,h.bl.trans (hb.mono h.bl.size),h.mp.below hb,h.bn.keep hb,h.ow.elim fun xs hx=>⟨xs,Ca hx.1 hb,hx.2⟩⟩
theorem SitI.drew {w:World} {g:Nat} {F D J:Br} {A:Option Addr} {k c:Nat} {V:World} (h:SitI w g F D J A k c V):SitI w g F D J A k c V.drew:=h.below (Below.refl _ V).drew
theorem SitI.step {w:World} {g:Nat} {F D D' J:Br} {A:Option Addr} {k c:Nat} {V V':World} (h:SitI w g F D J A k c V) (hr:Dr V' (w.heap.size+2) g F D') (hb:Below (w.heap.size+2) V V') (hf:∀ q,q≠w.heap.size+2->V'.heap[q]?=V.heap[q]?):SitI w g F D' J A k c V' :=
 ⟨hr,h.bl.trans (hb.mono (by omega)),h.mp.of_eq (hf _ (by omega)),(hf _ (by omega)).trans h.bn,h.ow.elim fun xs hx=>⟨xs,hx.1.kept (row:=some (w.heap.size+2)) ⟨hb.os,hb.tape,hb.output,hb.size,fun i _ hne=>hf i (fun e=>hne (by rw [e]))⟩ (by
  cases hv:(Value.slice A k c).ownBlock with
  | none=>exact .inl rfl
  | some b=>exact .inr (fun e=>by injection e with e;have:=(hx.1.lt b hv).1;omega)),hx.2⟩⟩
def SitP (l:List Ab) (g:Nat) (w:World) (e:Ending) (w':World):Prop :=
 ∃ (J D:Br) (A:Option Addr) (k c:Nat),SitI w g (Cp l) D J A k c w'/\k<=l.length/\(∃ Dn:List Ab,Dn.Perm l/\Fs l Dn J)/\e=.returned (.pointer (some ⟨w.heap.size+1,0,none⟩))
theorem SitI.put {w:World} {g:Nat} {F D J J':Br} {A:Option Addr} {k c:Nat} {V V':World} (h:SitI w g F D J A k c V) (hglt:g<w.heap.size) (hm:Bv V' w.heap.size J') (hf:∀ q,q≠w.heap.size->V'.heap[q]?=V.heap[q]?) (hs:V'.heap.size=V.heap.size) (h1:V'.os=V.os) (h2:V'.tape=V.tape) (h3:V'.output=V.output):SitI w g F D J' A k c V' :=
 ⟨h.rg.keep (hf _ (by omega)) (hf _ (by omega)),⟨h1.trans h.bl.os,h2.trans h.bl.tape,h3.trans h.bl.output,by rw [hs];exact h.bl.size,fun i hi=>(hf i (by omega)).trans (h.bl.block i hi)⟩,hm,(hf _ (by omega)).trans h.bn,h.ow.elim fun xs hx=>⟨xs,hx.1.kept (row:=some w.heap.size) ⟨h1,h2,h3,by omega,fun i _ hne=>hf i (fun e=>hne (by rw [e]))⟩ (by
  cases hv:(Value.slice A k c).ownBlock with
  | none=>exact .inl rfl
  | some b=>exact .inr (fun e=>by injection e with e;have:=(hx.1.lt b hv).1;omega)),hx.2⟩⟩
theorem nodup_map {α β:Type} {f:α->β} {l:List α} (h:(l.map f).Nodup):l.Nodup:=(List.pairwise_map.1 h).imp fun hab e=>hab (by rw [e])
theorem SitI.push {w:World} {g:Nat} {F D J:Br} {A A':Option Addr} {k c c':Nat} {V V':World} {xs xs':List Value} (h:SitI w g F D J A k c V) (hglt:g<w.heap.size) (ho:V.ownsRow (w.heap.size+3) 66 2 (.slice A k c) k xs) (hown:V'.ownsRow (w.heap.size+3) 66 2 (.slice A' (k+1) c') (k+1) xs') (hg:V.grownBy V' (Value.slice A k c).ownBlock) (hc:Nms (k+1) xs') :
  SitI w g F D J A' (k+1) c' (V'.setCell ⟨w.heap.size+1,2,none⟩ (.slice A' (k+1) c')):=by
 have hb:∀ b,b<w.heap.size+3->b<V.heap.size->V'.heap[b]?=V.heap[b]?:=fun b hb hlt=>hg.block b hlt (own_ne ho hb)
 have hr:=h.rg.lt;refine ⟨h.rg.keep ?_ ?_,?_,h.mp.of_eq ?_,?_,⟨xs',ownsRow_setCell_below hown (by simp) _,hc⟩⟩
 ·rw [Below.heap_setCell _ _ _ _ (by simp)]
  exact hb _ (by omega) hr.1
 ·rw [Below.heap_setCell _ _ _ _ (by simp;omega)]
  exact hb _ (by omega) hr.2
 ·refine Below.setCell ?_ (by simp) _
  exact ⟨hg.os.trans h.bl.os,hg.tape.trans h.bl.tape,hg.output.trans h.bl.output,Nat.le_trans h.bl.size hg.size,fun i hi=>(hb i (by omega) (by have:=h.bl.size;omega)).trans (h.bl.block i hi)⟩
 ·rw [Below.heap_setCell _ _ _ _ (by simp)]
  exact hb _ (by omega) h.mp.lt
 ·have:Bk V' (w.heap.size+1) 190 #[.map (some g),.map (some w.heap.size),.slice A k c]:=(hb _ (by omega) h.bn.lt).trans h.bn
  exact this.put 2 (.slice A' (k+1) c')
theorem Dq {ops:Array Oper} {o:Oper} {a:Act} {w:World} {K:Act->World->Prop} {Q:Exit->Act->World->Prop} {E:Prop} (hgd:o.guard=none) (s x:Operand) (t:TypeId)
  (ho:o.op=.call { callee:=.builtin .append,args:=#[s,x],argTypes:=#[t,t] })
  (base:Nat) (e:TypeId) (i:TypeInfo) (z:Value) (size bytes:Nat) (ht:Tryz.prog.underlying t=some (.slice e)) (hi:Tryz.prog.info? e=some i) (hz:i.zero=some z)
  (hsize:i.size=size) (hby:i.bytes=bytes) (hzs:z.cells.size=size) (hsz:0<size)
  (v:Value) (n:Nat) (xs:List Value) (hs:a.eval s=v) (hown:w.ownsRow base e size v n xs)
  (ad:Addr) (m c:Nat) (news:List Value) (hx:a.eval x=.slice (some ad) m c) (hl:news.length=m*size) (hnews:∀ j u,news[j]?=some u->w.cell? (ad.add j)=some u) (h1:∀ u∈news,u.oneCell'=true)
  (h63:n+m<=maxLen) (hbytes:(n+m)*bytes<=140737488355328) (hbase:base<=w.heap.size)
  (h:∀ v' w',w'.ownsRow base e size v' (n+m) (xs ++ news)->w.grownBy w' v.ownBlock->K (a.put o.dst v') w') :
  if Region.wanted o (yielded ops a.tmps)=true then Oper.wp Tryz.prog o a w K Q else E:=by
 have hw:Region.wanted o (yielded ops a.tmps)=true:=by simp [Region.wanted,hgd]
 rw [if_pos hw];exact wp_append_own w s x t ho base e i z size bytes ht hi hz hsize hby hzs hsz v n xs hs hown ad m c news hx hl hnews h1 h63 hbytes hbase fun v' w' h2 h3 _=>h v' w' h2 h3
theorem bk_66_68 {w:World} {q:Nat} {cs cs':Array Value} (h:Bk w q 66 cs) (h':Bk w q 68 cs'):False:=by
 have:=h.symm.trans h';simp at this
theorem own_68 {w:World} {base:Nat} {v:Value} {k q:Nat} {xs:List Value} {cs:Array Value} (h:w.ownsRow base 66 2 v k xs) (hq:Bk w q 68 cs):some q≠v.ownBlock:=fun e=>by
 obtain ⟨cs',hcs⟩:=Ck h e.symm;exact bk_66_68 hcs hq
theorem pair_at (w:World) (q:Nat) (a b:Value) (t:TypeId) (h:Bk w q t #[a,b]):∀ j u,[a,b][j]?=some u->w.cell? ((⟨q,0,none⟩:Addr).add j)=some u:=by
 intro j u hj;have h0:=h.cell 0;have h1:=h.cell 1;simp at h0 h1
 match j with
 | 0=>simp at hj;subst hj;rw [De];exact h0
 | 1=>simp at hj;subst hj;rw [De];exact h1
 | j+2=>simp at hj
theorem zero68 (w:World):(zeroValue 68).run Tryz.prog w=.ok (.agg z68) w:=by kernel_rfl
theorem look123 {mt:TypeId} (hm:Tryz.prog.underlying mt=some (.map 66 68)) {w:World} {g:Nat} {f:Br} (h:Bv w g f) (a b:Int) :
  (Instr.lookup mt (.map (some g)) (.agg #[.int .i64 a,.int .i64 b]) true).run Tryz.prog w=.ok (.tuple #[(Ha f (a,b)).getD (.agg z68),.bool (Ha f (a,b)).isSome]) w:=by
 obtain ⟨es,c,hg,hf⟩:=h;exact Kv name66 hm zero68 a b g es c w f hg hf true
attribute [local go_sem] makeMap_run
attribute [local go_sem ↓] Cd Bu Ek Dh
theorem sit_any (l:List Ab) (g:Nat) (w:World) (hm:Bv w g (Cp l)) (hnd:(l.map Ab.name).Nodup) (hlen:l.length<=400) :
  Calls Tryz.prog 44 #[.map (some g)] w (SitP l g w):=by
 have hB0:Below w.heap.size w ((w.alloc (.map #[] 0)).alloc (.cells #[.map (some g),.map (some w.heap.size),.slice none 0 0] 190)):=Ba.alloc (by simp) _
 obtain ⟨w1,hrun,R0,hb1⟩:=range_start und123 (hm.below hB0);have hglt:=hm.lt;have e2:((w.alloc (.map #[] 0)).alloc (.cells #[.map (some g),.map (some w.heap.size),.slice none 0 0] 190)).heap.size=w.heap.size+2:=by simp
 rw [e2] at hrun R0;have S0:SitI w g (Cp l) (Cp []) [] none 0 0 w1:=⟨R0,hB0.trans (hb1.mono hB0.size),((Bv.nil w).alloc _).below hb1,(show Bk _ (w.heap.size+1) 190 _ from Aa (by simp)).keep hb1,⟨[],World.ownsRow_nil _ _ _ _,[],rfl,rfl⟩⟩
 have HND:=Hd hnd;clear hm hnd hB0 R0 hb1 e2;go_enter Tryz.func44,Tryz.ntmps44;go_upto_region 3 with fail
 clear hrun;go_loopw [16] (fun _ wr=>∃ (Dn:List Ab) (J:Br) (A:Option Addr) (k c:Nat),SitI w g (Cp l) (Cp Dn) J A k c wr/\(∀ n∈Dn,n∈l)/\k<=Dn.length/\Hid (Fs l Dn J)) (fun _ wr=>Ch wr (w.heap.size+2))
 case atStart=>exact ⟨[],[],none,0,0,S0,by simp,Nat.le_refl _,Hd (Fs.nil l)⟩
 case round =>
  clear S0;obtain ⟨Dn,J,A,k,c,S,hsub,hk,HJ⟩:=hrel;rcases range_next S.rg (by omega) with ⟨hperm,hnx⟩ | ⟨kk,v,w2,hmem,hnx,R2,hb2,far2,hent⟩
  ·have HS:=Hd S;have hpl:=hperm.length_eq;have HP:Hid (Dn.Perm l):=by
    refine Hd ?_;have h2:=hperm.map Prod.fst;rw [setFn_keys,setFn_keys] at h2;refine (List.perm_ext_iff_of_nodup ?_ ?_).2 ?_
    ·have:=h2.nodup_iff.2 HND.out;exact nodup_map this
    ·exact nodup_map HND.out
    ·intro n;refine ⟨hsub n,fun hn=>?_⟩
     have h3:(n.name,Value.agg n.arr)∈Cp Dn:=hperm.mem_iff.2 (List.mem_map.2 ⟨n,hn,rfl⟩);obtain ⟨m,hm1,hm2⟩:=List.mem_map.1 h3;injection hm2 with hm2 _
     have:=Ke HND.out (hsub m hm1) hn hm2
     rwa [<- this]
   have hkl:k<=l.length:=by have:=HP.out.length_eq;omega
   clear S hperm hsub hpl;go_wp2_with fail;go_ret;exact ⟨J,_,A,k,c,HS.out,hkl,⟨Dn,HP.out,HJ.out⟩,rfl⟩
  ·obtain ⟨n,hn,hkv⟩:=List.mem_map.1 hmem;injection hkv with hk1 hv1
   obtain ⟨k1,k2⟩:=kk;have e1:=S.rg.rest;have e2:=R2.rest;have hrest:Ch w2 (w.heap.size+2)<Ch wr (w.heap.size+2):=by rw [List.length_append] at e2;simp at e2;omega
   unfold Ab.name at hk1;injection hk1 with h1 h2
   subst h1;subst h2;subst hv1;have S2:=S.step R2 hb2 far2;rw [show Cp Dn ++ [((n.house,n.num),Value.agg n.arr)]=Cp (Dn ++ [n]) by simp [Cp,Ab.name]] at S2
   have hsub2:∀ x∈Dn ++ [n],x∈l:=fun x hx=>by
    rcases List.mem_append.1 hx with hx | hx
    ·exact hsub x hx
    ·simp at hx;rw [hx];exact hn
   have HIN:=Hd (fun a (ha:a∈Dn ++ [n]) b (hb:b∈Dn ++ [n]) (e:a.name=b.name)=>Ke HND.out (hsub2 a ha) (hsub2 b hb) e)
   obtain ⟨q,hq⟩:∃ q,w2.heap.size=q:=⟨_,rfl⟩;have s1:=Be (ty:=68) (cs:=n.arr) (Aa (w:=w2) (t:=68) (cs:=z68) hq) (by kernel_rfl) rfl (Eb _)
   have N:Bk ((w2.alloc (.cells z68 68)).setRow q n.arr) q 68 n.arr:=Bj (Aa hq) _;have hBs:Below w2.heap.size w2 ((w2.alloc (.cells z68 68)).setRow q n.arr):=Aq Ba (by omega) _
   have S3:=S2.below hBs;have HREST:Hid (Ch ((w2.alloc (.cells z68 68)).setRow q n.arr) (w.heap.size+2)<Ch wr (w.heap.size+2)):=by
    have e3:=S3.rg.rest;have e4:=S2.rg.rest;exact Hd (by omega)
   have HK:=Hd (Ai N S3);have hqB:w.heap.size+3<=q:=by have:=S2.rg.lt.1;omega
   have hkD:k<=Dn.length:=hk;have HLEN:Hid ((Dn ++ [n]).length<=400):=by
    refine Hd ?_;have h5:=S3.rg.rest;simp only [Cp,List.length_map] at h5;omega
   clear S R2 hb2 far2 S2 S3 N hBs e1 e2 hrest hmem hk;go_upto_region 5 with fail
   clear s1 hnx hent hq;generalize (w2.alloc _).setRow q _=V at *;have ln:=Ah n HK.out.1;have HD:=Hd (done_any n V);rw [show inB n.kind 1 4=Gw n from rfl] at HD
   cases hd:Gw n with
   | true =>
    have HJ2:=Hd (HJ.out.out (x:=n) (by unfold seated;rw [hd];rfl))
    rw [hd] at HD;clear hd;go_wp2_with fail;refine HD.out.mono ?_;rintro e w3 ⟨rfl,hb3⟩;have S4:=HK.out.2.below hb3;clear ln HD;go_wp2_with fail;have S5:=S4;have HR5:Hid (Ch w3 (w.heap.size+2)<Ch wr (w.heap.size+2)):=by
     have e1:=HK.out.2.rg.rest;have e2:=S5.rg.rest;have:=HREST.out;exact Hd (by omega)
    clear S4;go_roundw
    case rel=>exact ⟨Dn ++ [n],J,A,k,c,S5,hsub2,by simp;omega,HJ2⟩
    case measure=>exact HR5.out
   | false =>
    rw [hd] at HD;have hdF:=Hd hd;clear hd;go_wp2_with fail;refine HD.out.mono ?_;rintro e w3 ⟨rfl,hb3⟩;have S4:=HK.out.2.below hb3;have N4:=HK.out.1.keep hb3;have x16:=N4.cell 16;have x17:=N4.cell 17;simp [Ab.arr] at x16 x17;have lk:=look123 und123 S4.rg.map n.rh n.rn;rw [lookF_setFn] at lk;clear ln HD;cases ho:Kd l (n.rh,n.rn) with
    | none =>
     rw [ho] at lk;have HJ2:=Hd (HJ.out.out (x:=n) (by unfold seated;rw [show Kd l n.ref=none from ho];simp))
     have s2:=Be (ty:=68) (cs:=z68) (Aa (w:=w3) (t:=68) (cs:=z68) rfl) (by kernel_rfl) rfl (by kernel_rfl)
     have hBs:Below w3.heap.size w3 ((w3.alloc (.cells z68 68)).setRow w3.heap.size z68):=Aq Ba (by omega) _
     have S6:=S4.below hBs;have N6:=N4.keep hBs;have HSN:=Hd (Ai S6 N6);clear S4 N4 hBs S6 N6 ho;go_upto_region 7 with fail
     generalize (w3.alloc _).setRow w3.heap.size _=U at *;obtain ⟨S6,N6⟩:=HSN.out;clear lk s2 x16 x17 HSN;go_upto_region 8 with fail
     have HU:=Hd (show Bk U.drew q 68 n.arr/\SitI w g (Cp l) (Cp (Dn ++ [n])) J A k c U.drew from ⟨N6.drew,S6.drew⟩)
     have HR6:Hid (Ch U (w.heap.size+2)<Ch wr (w.heap.size+2)):=by
      have e1:=HK.out.2.rg.rest;have e2:=S6.rg.rest;have:=HREST.out;exact Hd (by omega)
     have ln1:=Ah n HU.out.1;have c1:=HU.out.2.bn.cell 2;simp at c1;have HNN:=Hd (Dx n U.drew);obtain ⟨i0,hi0,hz0,hz1,hz2⟩:=info_parts (show (Tryz.prog.info? 66).map (fun i=>(i.zero,i.size,i.bytes))=some (some (.agg #[.int .i64 0,.int .i64 0]),2,16) by kernel_rfl)
     clear N6 S6;go_region_law (first
      | (go_simp;go_at_call 73;refine HNN.out.mono ?_;rintro e w5 ⟨rfl,hb5⟩;dsimp only;have ln2:=Ah n (HU.out.1.keep hb5);have ln3:=Ah n ((HU.out.1.keep hb5).alloc (.cells #[.int .i64 n.house,.int .i64 n.num] 66));have c2:=(HU.out.2.below hb5).bn.cell 2;have c3:=((HU.out.2.below hb5).bn.alloc (.cells #[.int .i64 n.house,.int .i64 n.num] 66)).cell 2;simp at c2 c3)
      | (obtain ⟨xs,hxs,hxc⟩:=(HU.out.2.below hb5).ow;refine Dq rfl _ _ 47 rfl (w.heap.size+3) 66 i0 _ 2 16 Tryz.underlying47 hi0 hz0 hz1 hz2 rfl (by decide) (.slice A k c) k xs rfl (hxs.alloc (.cells #[.int .i64 n.house,.int .i64 n.num] 66)) ⟨w5.heap.size,0,none⟩ 1 1 [.int .i64 n.house,.int .i64 n.num] rfl rfl (pair_at _ _ _ _ 66 (Aa rfl)) (by simp [Value.oneCell']) (by have:=HLEN.out;simp at this;unfold maxLen;omega) (by have:=HLEN.out;simp at this;omega) (by have h1:=(HU.out.2.below hb5).rg.lt.1;simp;omega) ?_;intro v6 w6 hown6 hg6;obtain ⟨A6,c6,rfl,_,_,_⟩:=Au hown6;have N7:=((HU.out.1.keep hb5).alloc (.cells #[.int .i64 n.house,.int .i64 n.num] 66)).grown hg6 (own_68 hxs (HU.out.1.keep hb5));have B7:=((HU.out.2.below hb5).bn.alloc (.cells #[.int .i64 n.house,.int .i64 n.num] 66)).grown hg6 (own_ne hxs (by omega));have c4:=B7.cell 2;have f4:=B7.fz 2;have l4:=B7.lt;have ln4:=Ah n N7;have ln5:=Ah n (N7.far (p:=⟨w.heap.size+1,2,none⟩) (by simp;omega) (.slice A6 (k+1) c6));simp at c4;have HEND:=Hd (Ai hxs (Ai hown6 (Ai hg6 hxc)));clear N7 B7 hown6 hg6 hxs hxc))
     all_goals
      obtain ⟨hxs,hown6,hg6,hxc⟩:=HEND.out;have S7:=((HU.out.2.below hb5).below ((Below.refl w5.heap.size w5).alloc Le (.cells #[.int .i64 n.house,.int .i64 n.num] 66))).push hglt (hxs.alloc _) hown6 hg6 (nms_snoc hxc _ _);have HR7:Hid (Ch (w6.setCell ⟨w.heap.size+1,2,none⟩ (.slice A6 (k+1) c6)) (w.heap.size+2)<Ch wr (w.heap.size+2)):=by
       have e1:=HU.out.2.rg.rest;have e2:=S7.rg.rest;have e3:=HK.out.2.rg.rest;have:=HREST.out;exact Hd (by omega)
      have HS7:=Hd S7;clear S7 hxs hxc hown6 hg6 HEND c4 f4 l4 ln1 ln2 ln3 ln4 ln5 c1 c2 c3 HU HNN hi0 hz0 hz1 hz2 hb5 HR6;generalize w6.setCell _ _=U7 at *;go_wp2_with fail;go_roundw
      case rel=>exact ⟨Dn ++ [n],J,A6,k+1,c6,HS7.out,hsub2,by simp;omega,HJ2⟩
      case measure=>exact HR7.out
    | some r =>
     rw [ho] at lk;simp only [Option.map_some,Option.getD_some,Option.isSome_some] at lk;have HNO:=Hd ho;have s2:=Be (ty:=68) (cs:=r.arr) (Aa (w:=w3) (t:=68) (cs:=z68) rfl) (by kernel_rfl) rfl (Eb _)
     have hBs:Below w3.heap.size w3 ((w3.alloc (.cells z68 68)).setRow w3.heap.size r.arr):=Aq Ba (by omega) _
     have S6:=S4.below hBs;have N6:=N4.keep hBs;have R6:Bk ((w3.alloc (.cells z68 68)).setRow w3.heap.size r.arr) w3.heap.size 68 r.arr:=Bj (Aa rfl) _;have HSN:=Hd (Ai S6 (Ai N6 R6));clear S4 N4 hBs S6 N6 R6 ho;go_upto_region 7 with fail
     generalize (w3.alloc _).setRow w3.heap.size _=U at *;clear lk s2 x16 x17;have lr:=Ah r HSN.out.2.2;have HDR:=Hd (done_any r U);rw [show inB r.kind 1 4=Gw r from rfl] at HDR
     cases hdr:Gw r with
     | false =>
      rw [hdr] at HDR;have HJ2:=Hd (HJ.out.out (x:=n) (by unfold seated;rw [show Kd l n.ref=some r from HNO.out];simp [hdr]))
      clear hdr;go_wp2_with fail;refine HDR.out.mono ?_;rintro e w8 ⟨rfl,hb8⟩;have S6:=HSN.out.1.below hb8;have N6:=HSN.out.2.1.keep hb8;clear lr HDR HSN hb8;go_upto_region 8 with fail
      have HU:=Hd (show Bk w8.drew q 68 n.arr/\SitI w g (Cp l) (Cp (Dn ++ [n])) J A k c w8.drew from ⟨N6.drew,S6.drew⟩)
      have HR6:Hid (Ch w8 (w.heap.size+2)<Ch wr (w.heap.size+2)):=by
       have e1:=HK.out.2.rg.rest;have e2:=S6.rg.rest;have:=HREST.out;exact Hd (by omega)
      have ln1:=Ah n HU.out.1;have c1:=HU.out.2.bn.cell 2;simp at c1;have HNN:=Hd (Dx n w8.drew);obtain ⟨i0,hi0,hz0,hz1,hz2⟩:=info_parts (show (Tryz.prog.info? 66).map (fun i=>(i.zero,i.size,i.bytes))=some (some (.agg #[.int .i64 0,.int .i64 0]),2,16) by kernel_rfl)
      clear N6 S6;go_region_law (first
       | (go_simp;go_at_call 73;refine HNN.out.mono ?_;rintro e w5 ⟨rfl,hb5⟩;dsimp only;have ln2:=Ah n (HU.out.1.keep hb5);have ln3:=Ah n ((HU.out.1.keep hb5).alloc (.cells #[.int .i64 n.house,.int .i64 n.num] 66));have c2:=(HU.out.2.below hb5).bn.cell 2;have c3:=((HU.out.2.below hb5).bn.alloc (.cells #[.int .i64 n.house,.int .i64 n.num] 66)).cell 2;simp at c2 c3)
       | (obtain ⟨xs,hxs,hxc⟩:=(HU.out.2.below hb5).ow;refine Dq rfl _ _ 47 rfl (w.heap.size+3) 66 i0 _ 2 16 Tryz.underlying47 hi0 hz0 hz1 hz2 rfl (by decide) (.slice A k c) k xs rfl (hxs.alloc (.cells #[.int .i64 n.house,.int .i64 n.num] 66)) ⟨w5.heap.size,0,none⟩ 1 1 [.int .i64 n.house,.int .i64 n.num] rfl rfl (pair_at _ _ _ _ 66 (Aa rfl)) (by simp [Value.oneCell']) (by have:=HLEN.out;simp at this;unfold maxLen;omega) (by have:=HLEN.out;simp at this;omega) (by have h1:=(HU.out.2.below hb5).rg.lt.1;simp;omega) ?_;intro v6 w6 hown6 hg6;obtain ⟨A6,c6,rfl,_,_,_⟩:=Au hown6;have N7:=((HU.out.1.keep hb5).alloc (.cells #[.int .i64 n.house,.int .i64 n.num] 66)).grown hg6 (own_68 hxs (HU.out.1.keep hb5));have B7:=((HU.out.2.below hb5).bn.alloc (.cells #[.int .i64 n.house,.int .i64 n.num] 66)).grown hg6 (own_ne hxs (by omega));have c4:=B7.cell 2;have f4:=B7.fz 2;have l4:=B7.lt;have ln4:=Ah n N7;have ln5:=Ah n (N7.far (p:=⟨w.heap.size+1,2,none⟩) (by simp;omega) (.slice A6 (k+1) c6));simp at c4;have HEND:=Hd (Ai hxs (Ai hown6 (Ai hg6 hxc)));clear N7 B7 hown6 hg6 hxs hxc))
      all_goals
       obtain ⟨hxs,hown6,hg6,hxc⟩:=HEND.out;have S7:=((HU.out.2.below hb5).below ((Below.refl w5.heap.size w5).alloc Le (.cells #[.int .i64 n.house,.int .i64 n.num] 66))).push hglt (hxs.alloc _) hown6 hg6 (nms_snoc hxc _ _);have HR7:Hid (Ch (w6.setCell ⟨w.heap.size+1,2,none⟩ (.slice A6 (k+1) c6)) (w.heap.size+2)<Ch wr (w.heap.size+2)):=by
        have e1:=HU.out.2.rg.rest;have e2:=S7.rg.rest;have e3:=HK.out.2.rg.rest;have:=HREST.out;exact Hd (by omega)
       have HS7:=Hd S7;clear S7 hxs hxc hown6 hg6 HEND c4 f4 l4 ln1 ln2 ln3 ln4 ln5 c1 c2 c3 HU HNN hi0 hz0 hz1 hz2 hb5 HR6;generalize w6.setCell _ _=U7 at *;go_wp2_with fail;go_roundw
       case rel=>exact ⟨Dn ++ [n],J,A6,k+1,c6,HS7.out,hsub2,by simp;omega,HJ2⟩
       case measure=>exact HR7.out
     | true =>
      rw [hdr] at HDR;have HDD:=Hd hdr;clear hdr;go_wp2_with fail;refine HDR.out.mono ?_;rintro e w8 ⟨rfl,hb8⟩;have S8:=HSN.out.1.below hb8;have N8:=HSN.out.2.1.keep hb8;have R8:=HSN.out.2.2.keep hb8;have HSN8:=Hd (Ai S8 N8);have lr2:=Ah r R8;have ln2:=Ah n N8;have HJU:=Hd (judges_any n r w8);clear lr HDR HSN hb8 S8 N8 R8;cases hju:Jp n r with
      | false =>
       rw [hju] at HJU;have HJ2:=Hd (HJ.out.out (x:=n) (by unfold seated;rw [show Kd l n.ref=some r from HNO.out];simp [hju]))
       clear hju;go_wp2_with fail;refine HJU.out.mono ?_;rintro e w9 ⟨rfl,hb9⟩;have S6:=HSN8.out.1.below hb9;have N6:=HSN8.out.2.keep hb9;clear lr2 ln2 HJU HSN8 hb9;go_upto_region 8 with fail
       have HU:=Hd (show Bk w9.drew q 68 n.arr/\SitI w g (Cp l) (Cp (Dn ++ [n])) J A k c w9.drew from ⟨N6.drew,S6.drew⟩)
       have HR6:Hid (Ch w9 (w.heap.size+2)<Ch wr (w.heap.size+2)):=by
        have e1:=HK.out.2.rg.rest;have e2:=S6.rg.rest;have:=HREST.out;exact Hd (by omega)
       have ln1:=Ah n HU.out.1;have c1:=HU.out.2.bn.cell 2;simp at c1;have HNN:=Hd (Dx n w9.drew);obtain ⟨i0,hi0,hz0,hz1,hz2⟩:=info_parts (show (Tryz.prog.info? 66).map (fun i=>(i.zero,i.size,i.bytes))=some (some (.agg #[.int .i64 0,.int .i64 0]),2,16) by kernel_rfl)
       clear N6 S6;go_region_law (first
        | (go_simp;go_at_call 73;refine HNN.out.mono ?_;rintro e w5 ⟨rfl,hb5⟩;dsimp only;have ln2:=Ah n (HU.out.1.keep hb5);have ln3:=Ah n ((HU.out.1.keep hb5).alloc (.cells #[.int .i64 n.house,.int .i64 n.num] 66));have c2:=(HU.out.2.below hb5).bn.cell 2;have c3:=((HU.out.2.below hb5).bn.alloc (.cells #[.int .i64 n.house,.int .i64 n.num] 66)).cell 2;simp at c2 c3)
        | (obtain ⟨xs,hxs,hxc⟩:=(HU.out.2.below hb5).ow;refine Dq rfl _ _ 47 rfl (w.heap.size+3) 66 i0 _ 2 16 Tryz.underlying47 hi0 hz0 hz1 hz2 rfl (by decide) (.slice A k c) k xs rfl (hxs.alloc (.cells #[.int .i64 n.house,.int .i64 n.num] 66)) ⟨w5.heap.size,0,none⟩ 1 1 [.int .i64 n.house,.int .i64 n.num] rfl rfl (pair_at _ _ _ _ 66 (Aa rfl)) (by simp [Value.oneCell']) (by have:=HLEN.out;simp at this;unfold maxLen;omega) (by have:=HLEN.out;simp at this;omega) (by have h1:=(HU.out.2.below hb5).rg.lt.1;simp;omega) ?_;intro v6 w6 hown6 hg6;obtain ⟨A6,c6,rfl,_,_,_⟩:=Au hown6;have N7:=((HU.out.1.keep hb5).alloc (.cells #[.int .i64 n.house,.int .i64 n.num] 66)).grown hg6 (own_68 hxs (HU.out.1.keep hb5));have B7:=((HU.out.2.below hb5).bn.alloc (.cells #[.int .i64 n.house,.int .i64 n.num] 66)).grown hg6 (own_ne hxs (by omega));have c4:=B7.cell 2;have f4:=B7.fz 2;have l4:=B7.lt;have ln4:=Ah n N7;have ln5:=Ah n (N7.far (p:=⟨w.heap.size+1,2,none⟩) (by simp;omega) (.slice A6 (k+1) c6));simp at c4;have HEND:=Hd (Ai hxs (Ai hown6 (Ai hg6 hxc)));clear N7 B7 hown6 hg6 hxs hxc))
       all_goals
        obtain ⟨hxs,hown6,hg6,hxc⟩:=HEND.out;have S7:=((HU.out.2.below hb5).below ((Below.refl w5.heap.size w5).alloc Le (.cells #[.int .i64 n.house,.int .i64 n.num] 66))).push hglt (hxs.alloc _) hown6 hg6 (nms_snoc hxc _ _);have HR7:Hid (Ch (w6.setCell ⟨w.heap.size+1,2,none⟩ (.slice A6 (k+1) c6)) (w.heap.size+2)<Ch wr (w.heap.size+2)):=by
         have e1:=HU.out.2.rg.rest;have e2:=S7.rg.rest;have e3:=HK.out.2.rg.rest;have:=HREST.out;exact Hd (by omega)
        have HS7:=Hd S7;clear S7 hxs hxc hown6 hg6 HEND c4 f4 l4 ln1 ln2 ln3 ln4 ln5 c1 c2 c3 HU HNN hi0 hz0 hz1 hz2 hb5 HR6;generalize w6.setCell _ _=U7 at *;go_wp2_with fail;go_roundw
        case rel=>exact ⟨Dn ++ [n],J,A6,k+1,c6,HS7.out,hsub2,by simp;omega,HJ2⟩
        case measure=>exact HR7.out
      | true =>
       rw [hju] at HJU;have HSE:Hid (seated l n=true):=Hd (by unfold seated;rw [show Kd l n.ref=some r from HNO.out];simp [hju,HDD.out,hdF.out])
       clear hju;go_wp2_with fail;refine HJU.out.mono ?_;rintro e w9 ⟨rfl,hb9⟩;have S6:=HSN8.out.1.below hb9;have N6:=HSN8.out.2.keep hb9;clear lr2 ln2 HJU HSN8 hb9;go_upto_region 9 with fail
       have HU:=Hd (show Bk w9 q 68 n.arr/\SitI w g (Cp l) (Cp (Dn ++ [n])) J A k c w9 from ⟨N6,S6⟩)
       have hBa:Below w9.heap.size w9 ((w9.alloc (.cells z68 68)).drew):=Ba.drew;have x16:=HU.out.1.cell 16;have x17:=HU.out.1.cell 17;have b1:=HU.out.2.bn.cell 1;have x16b:=(HU.out.1.keep hBa).cell 16;have x17b:=(HU.out.1.keep hBa).cell 17;have b1b:=(HU.out.2.below hBa).bn.cell 1;simp [Ab.arr] at x16 x17 b1 x16b x17b b1b;have lka:=look123 und122 HU.out.2.drew.mp n.rh n.rn;have lkb:=look123 und122 (HU.out.2.below hBa).mp n.rh n.rn;have hjk:Ha J (n.rh,n.rn)=(best (Dn.filter (Ej l n.ref))).map fun n=>.agg n.arr:=HJ.out n.ref
       rw [hjk] at lka lkb;clear N6 S6 hjk;cases hb:best (Dn.filter (Ej l n.ref)) with
       | none =>
        rw [hb] at lka lkb;simp only [Option.map_none,Option.map_some,Option.getD_none,Option.getD_some,Option.isSome_none,Option.isSome_some] at lka lkb;have s3:=Be (ty:=68) (cs:=z68) (show Bk ((w9.alloc (.cells z68 68)).drew) w9.heap.size 68 z68 from Bk.drew (Aa rfl)) (by kernel_rfl) rfl (by kernel_rfl)
        have HBN:=Hd hb;have hB9:Below w9.heap.size w9 (((w9.alloc (.cells z68 68)).drew).setRow w9.heap.size z68):=Aq hBa Le _;have S9:=HU.out.2.below hB9;have N9:=HU.out.1.keep hB9;have T9:Bk (((w9.alloc (.cells z68 68)).drew).setRow w9.heap.size z68) w9.heap.size 68 z68:=Bj (show Bk ((w9.alloc (.cells z68 68)).drew) w9.heap.size 68 z68 from Bk.drew (Aa rfl)) _
        have HSN9:=Hd (Ai S9 (Ai N9 T9));clear hb hB9 S9 N9 T9;go_region;generalize World.setRow _ w9.heap.size _=w10 at *;clear s3 lka lkb x16 x17 x16b x17b b1 b1b hBa HU;have HJ2:=Hd (HJ.out.put (by obtain ⟨es,cc,_,hf⟩:=HSN9.out.1.mp;exact hf.keys) HIN.out HSE.out (fun y hy=>by rw [HBN.out] at hy;cases hy))
        have HX:=Hd (Ai HSN9.out.1.drew HSN9.out.2.1.drew);obtain ⟨w12,hup,M12,far12,sz12,os12,tp12,ou12⟩:=map_update { n with house:=n.rh,num:=n.rn } (.agg n.arr) und122 HX.out.1.mp
        have hup2:(Instr.mapUpdate 122 (.map (some w.heap.size)) (.agg #[.int .i64 n.rh,.int .i64 n.rn]) (.agg n.arr)).run Tryz.prog _=.ok () w12:=hup;have HS12:=Hd (HX.out.1.put hglt M12 far12 sz12 os12 tp12 ou12);have x16:=HX.out.2.cell 16;have x17:=HX.out.2.cell 17;have b1:=HX.out.1.bn.cell 1;have ln:=Ah n HX.out.2;simp [Ab.arr] at x16 x17 b1;clear hup M12 far12 sz12 os12 tp12 ou12;go_upto_region 11 with fail
        go_region;clear x16 x17 b1 ln hup2;have HR7:Hid (Ch w12 (w.heap.size+2)<Ch wr (w.heap.size+2)):=by
         have e1:=HX.out.1.rg.rest;have e2:=HS12.out.rg.rest;have e3:=HK.out.2.rg.rest;have:=HREST.out;exact Hd (by omega)
        go_wp2_with fail;go_roundw
        case rel=>exact ⟨Dn ++ [n],_,A,k,c,HS12.out,hsub2,by simp;omega,HJ2⟩
        case measure=>exact HR7.out
       | some y =>
        rw [hb] at lka lkb;simp only [Option.map_none,Option.map_some,Option.getD_none,Option.getD_some,Option.isSome_none,Option.isSome_some] at lka lkb;have s3:=Be (ty:=68) (cs:=y.arr) (show Bk ((w9.alloc (.cells z68 68)).drew) w9.heap.size 68 z68 from Bk.drew (Aa rfl)) (by kernel_rfl) rfl (Eb _)
        have HBN:=Hd hb;have hB9:Below w9.heap.size w9 (((w9.alloc (.cells z68 68)).drew).setRow w9.heap.size y.arr):=Aq hBa Le _;have S9:=HU.out.2.below hB9;have N9:=HU.out.1.keep hB9;have T9:Bk (((w9.alloc (.cells z68 68)).drew).setRow w9.heap.size y.arr) w9.heap.size 68 y.arr:=Bj (show Bk ((w9.alloc (.cells z68 68)).drew) w9.heap.size 68 z68 from Bk.drew (Aa rfl)) _
        have HSN9:=Hd (Ai S9 (Ai N9 T9));clear hb hB9 S9 N9 T9;go_region;generalize World.setRow _ w9.heap.size _=w10 at *;clear s3 lka lkb x16 x17 x16b x17b b1 b1b hBa HU;have ly:=Ah y HSN9.out.2.2;have ln:=Ah n HSN9.out.2.1;have HKN:=Hd (known_any y n w10)
        by_cases hkn:Hf y n<0
        ·have HKL:=Hd hkn;go_wp2_with fail;refine HKN.out.mono ?_;rintro e w11 ⟨rfl,hb11⟩;have S11:=HSN9.out.1.below hb11;have N11:=HSN9.out.2.1.keep hb11;clear ly ln HKN hb11;have HJ2:=Hd (HJ.out.put (by obtain ⟨es,cc,_,hf⟩:=S11.mp;exact hf.keys) HIN.out HSE.out (fun y' hy=>by rw [HBN.out] at hy;injection hy with hy;subst hy;exact HKL.out))
         have HX:=Hd (Ai S11.drew N11.drew);obtain ⟨w12,hup,M12,far12,sz12,os12,tp12,ou12⟩:=map_update { n with house:=n.rh,num:=n.rn } (.agg n.arr) und122 HX.out.1.mp
         have hup2:(Instr.mapUpdate 122 (.map (some w.heap.size)) (.agg #[.int .i64 n.rh,.int .i64 n.rn]) (.agg n.arr)).run Tryz.prog _=.ok () w12:=hup;have HS12:=Hd (HX.out.1.put hglt M12 far12 sz12 os12 tp12 ou12);have x16:=HX.out.2.cell 16;have x17:=HX.out.2.cell 17;have b1:=HX.out.1.bn.cell 1;have ln:=Ah n HX.out.2;simp [Ab.arr] at x16 x17 b1;clear hup M12 far12 sz12 os12 tp12 ou12;go_upto_region 11 with fail
         go_region;clear x16 x17 b1 ln hup2;have HR7:Hid (Ch w12 (w.heap.size+2)<Ch wr (w.heap.size+2)):=by
          have e1:=HX.out.1.rg.rest;have e2:=HS12.out.rg.rest;have e3:=HK.out.2.rg.rest;have:=HREST.out;exact Hd (by omega)
         go_wp2_with fail;go_roundw
         case rel=>exact ⟨Dn ++ [n],_,A,k,c,HS12.out,hsub2,by simp;omega,HJ2⟩
         case measure=>exact HR7.out
        ·have HJ2:=Hd (HJ.out.keep HIN.out HSE.out HBN.out hkn);go_wp2_with fail;refine HKN.out.mono ?_;rintro e w11 ⟨rfl,hb11⟩;have HS11:=Hd (HSN9.out.1.below hb11);clear ly ln HKN hb11;have HR7:Hid (Ch w11 (w.heap.size+2)<Ch wr (w.heap.size+2)):=by
          have e1:=HSN9.out.1.rg.rest;have e2:=HS11.out.rg.rest;have e3:=HK.out.2.rg.rest;have:=HREST.out;exact Hd (by omega)
         go_wp2_with fail;go_roundw
         case rel=>exact ⟨Dn ++ [n],J,A,k,c,HS11.out,hsub2,by simp;omega,HJ2⟩
         case measure=>exact HR7.out
end Go.Proofs.YteihcodicfoiaaaGreat
