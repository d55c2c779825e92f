/-
  What is proved: the contract of tell.
-/
import Derived.Test.YteihcodicfoiaaaGreat40Mf
namespace Go.Proofs.YteihcodicfoiaaaGreat
set_option maxRecDepth 100000
set_option maxHeartbeats 8000000
open Go Go.RowKit
def Bh.plain (s:Bh):Bh:={ s with tA:=none,tc:=0 }
def Fh (b:Al) (stone:Int) (cnt:List Int) (H:List EvD) (s:List Bh×List Da) (n:Ab):List Bh×List Da :=
 if n.kind≠2/\n.stone≠stone then s
 else if n.kind=2 then (s.1 ++ [⟨1,Ki H n.rh n.rn,cnt.map (n.turns * ·),none,0,0,0⟩],s.2)
 else if n.kind=4 then (s.1 ++ [⟨2,0,covered b.wide.toNat (n.ring*b.bed.sec).toNat (List.replicate cnt.length 0) n.strokes,none,0,b.dlo,b.dhi⟩],s.2)
 else (s.1,s.2 ++ [⟨s.1.length,n.a,n.b,n.dlo,n.dhi⟩])
def Hs (t:Int) (cnt:List Int) (k:Nat):List Int:=(cnt.take k).map (t * ·) ++ List.replicate (cnt.length - k) 0
theorem timesK_len (t:Int) (cnt:List Int) (k:Nat) (hk:k<=cnt.length):(Hs t cnt k).length=cnt.length:=by simp [Hs];omega
theorem timesK_zero (t:Int) (cnt:List Int):Hs t cnt 0=List.replicate cnt.length 0:=by simp [Hs]
theorem timesK_all (t:Int) (cnt:List Int):Hs t cnt cnt.length=cnt.map (t * ·):=by simp [Hs]
theorem timesK_set (t:Int) (cnt:List Int) (k:Nat) (hk:k<cnt.length):(Hs t cnt k).set k (t*cnt.getD k 0)=Hs t cnt (k+1):=by
 unfold Hs;have e1:cnt.length - k=(cnt.length - (k+1))+1:=by omega
 rw [e1,List.replicate_succ,List.set_append_right _ _ (by simp;omega)]
 rw [show k - ((cnt.take k).map (t * ·)).length=0 by simp;omega,List.set_cons_zero]
 have e2:cnt.take (k+1)=cnt.take k ++ [cnt.getD k 0]:=by rw [List.take_add_one,List.getElem?_eq_getElem hk,Aj _ _ hk];rfl
 rw [e2,List.map_append];simp
def TellP (w:World) (B pt:Nat) (b:Al) (z:Df) (stone:Int) (gc cc:Nat) (cnt:List Int) (st hp:List (Int×Int)) (H:List EvD) (S:List Bh) (R:List Da) (n:Ab) (e:Ending) (V':World):Prop :=
 e=.returned (.tuple #[])/\∃ (S':List Bh) (R':List Da) (y':StoL),Gk w B pt b z stone gc cc cnt st hp S' R' y' V'/\(S'.map Bh.plain,R')=Fh b stone cnt H (S.map Bh.plain,R) n
structure TellOk (b:Al) (n:Ab):Prop where
 kind:n.kind=2\/n.kind=3\/n.kind=4
 turns:n.kind=2->1<=n.turns/\n.turns<=10000
 ring:n.kind=4->0<=n.ring/\n.ring<b.bed.rings
 str:n.kind=4->(1<=n.strokes.length/\n.strokes.length<=200)/\∀ s∈n.strokes,0<=s/\s+b.wide<=b.bed.sec
theorem info62:(Tryz.prog.info? 62).map (fun i=>(i.zero,i.size,i.bytes))=some (some (.agg #[.int .i64 0,.int .i64 0,.slice none 0 0,.int .i64 0,.int .i64 0]),5,56):=by kernel_rfl
theorem info186:(Tryz.prog.info? 186).map (fun i=>(i.zero,i.size,i.bytes))=some (some (.agg #[.int .i64 0,.int .i64 0,.int .i64 0,.int .i64 0,.int .i64 0]),5,40):=by kernel_rfl
theorem Gb {w:World} {q:Nat} {t:TypeId} {cs:List Value} (h:Bk w q t cs.toArray):∀ (j:Nat) (u:Value),cs[j]?=some u->w.cell? ((⟨q,0,none⟩:Addr).add j)=some u:=fun j u hu=>by
 rw [De,Nat.zero_add,h.cell j]
 simpa using hu
attribute [local go_sem ↓] Cd Dm Bu
theorem tell_skip (w V:World) (B pt:Nat) (b:Al) (z:Df) (stone:Int) (gc cc:Nat) (cnt:List Int) (st hp:List (Int×Int)) (H:List EvD) (A1 A2 A3:Option Addr) (c1 n2 c2 n3 c3:Nat) (S:List Bh) (R:List Da) (y:StoL) (n:Ab)
  (hI:Gk w B pt b z stone gc cc cnt st hp S R y V) (hf:b.fr.Ok) (hrow:Ad V A1 (Ak H)) (hH:H.length<=400) (hat:n.At V) (hok:TellOk b n) (hN:(cnt.length:Int)=b.bed.rings*b.bed.sec) (hN2:cnt.length<=256) (hcn:Kn 1000 cnt) (hS:S.length<=400) (hR:R.length<=400) (hk:n.kind≠2/\n.stone≠stone) :
  Calls Tryz.prog 40 #[.pointer (some ⟨pt,0,none⟩),Dv A1 H.length c1 A2 n2 c2 A3 n3 c3,.agg n.arr] V (TellP w B pt b z stone gc cc cnt st hp H S R n):=by
 unfold Dv;obtain ⟨W,hW⟩:∃ W,(V.alloc (.cells #[.slice A1 H.length c1,.slice A2 n2 c2,.slice A3 n3 c3] 49)).alloc (.cells n.arr 68)=W:=⟨_,rfl⟩;have hbW:Below V.heap.size V W:=by rw [<- hW];exact Ba.alloc (by simp) _
 have X:Bk W V.heap.size 49 #[.slice A1 H.length c1,.slice A2 n2 c2,.slice A3 n3 c3]:=by rw [<- hW];exact (Aa rfl).alloc _
 have Y:Bk W (V.heap.size+1) 68 n.arr:=by rw [<- hW];exact Aa (by simp)
 have HX:=Hd (show Gk w B pt b z stone gc cc cnt st hp S R y W/\Bk W V.heap.size 49 #[.slice A1 H.length c1,.slice A2 n2 c2,.slice A3 n3 c3]/\Bk W (V.heap.size+1) 68 n.arr/\Ad W A1 (Ak H)/\n.At W from ⟨hI.below hbW,X,Y,hrow.below hbW,hat.below hbW⟩)
 have hptV:pt<V.heap.size:=hI.bk.lt;have hptW:pt<W.heap.size:=HX.out.1.bk.lt;have hqW:V.heap.size+1<W.heap.size:=Y.lt;have y4:=Y.cell 4;have y5:=Y.cell 5;have p31:=HX.out.1.bk.cell 31;simp [Ab.arr,Cx] at y4 y5 p31;have HW:=Hd hW;have HOK:=Hd hok;have HN:=Hd hN;have HCN:=Hd hcn;have HF:=Hd hf;clear hW hbW X Y hI hrow hat hok hN hcn hf;have hq45:V.heap.size<V.heap.size+1:=by omega
 go_enter Tryz.func40,Tryz.ntmps40;go_upto_region 1 with fail
 rw [HW.out];clear HW;generalize V.heap.size + 1=q5 at *;generalize V.heap.size=q4 at *;have b4:(n.kind != 2)=true:=by simpa using hk.1
 have b5:(n.stone != stone)=true:=by simpa using hk.2
 have HK:=Hd hk;replace y4:=fun x:Ext W=>Ag x.bel y4
 replace y5:=fun x:Ext W=>Ag x.bel y5
 replace p31:=fun x:Ext W=>Ag x.bel p31
 clear hk;refine Bg (by kernel_rfl) (by kernel_rfl) ?_
 repeat (go_big_quiet_step (fail))
 refine wpQuiet_nil ?_;rintro _ ⟨yy,rfl⟩;clear y4 y5 p31;have hb2:=yy.bel;generalize yy.w=w2 at hb2 ⊢;go_wp2_with fail;exact bodyPost_end (results_none rfl _ _ _) rfl ⟨rfl,S,R,y,HX.out.1.below hb2,by unfold Fh;rw [if_pos HK.out]⟩
attribute [local go_sem ↓] Cd Dm Bu
theorem tell_pass (w V:World) (B pt:Nat) (b:Al) (z:Df) (stone:Int) (gc cc:Nat) (cnt:List Int) (st hp:List (Int×Int)) (H:List EvD) (A1 A2 A3:Option Addr) (c1 n2 c2 n3 c3:Nat) (S:List Bh) (R:List Da) (y:StoL) (n:Ab)
  (hI:Gk w B pt b z stone gc cc cnt st hp S R y V) (hf:b.fr.Ok) (hrow:Ad V A1 (Ak H)) (hH:H.length<=400) (hat:n.At V) (hok:TellOk b n) (hN:(cnt.length:Int)=b.bed.rings*b.bed.sec) (hN2:cnt.length<=256) (hcn:Kn 1000 cnt) (hS:S.length<=400) (hR:R.length<=400) (hk:n.kind=2) :
  Calls Tryz.prog 40 #[.pointer (some ⟨pt,0,none⟩),Dv A1 H.length c1 A2 n2 c2 A3 n3 c3,.agg n.arr] V (TellP w B pt b z stone gc cc cnt st hp H S R n):=by
 unfold Dv;obtain ⟨W,hW⟩:∃ W,(V.alloc (.cells #[.slice A1 H.length c1,.slice A2 n2 c2,.slice A3 n3 c3] 49)).alloc (.cells n.arr 68)=W:=⟨_,rfl⟩;have hbW:Below V.heap.size V W:=by rw [<- hW];exact Ba.alloc (by simp) _
 have X:Bk W V.heap.size 49 #[.slice A1 H.length c1,.slice A2 n2 c2,.slice A3 n3 c3]:=by rw [<- hW];exact (Aa rfl).alloc _
 have Y:Bk W (V.heap.size+1) 68 n.arr:=by rw [<- hW];exact Aa (by simp)
 have HX:=Hd (show Gk w B pt b z stone gc cc cnt st hp S R y W/\Bk W V.heap.size 49 #[.slice A1 H.length c1,.slice A2 n2 c2,.slice A3 n3 c3]/\Bk W (V.heap.size+1) 68 n.arr/\Ad W A1 (Ak H)/\n.At W from ⟨hI.below hbW,X,Y,hrow.below hbW,hat.below hbW⟩)
 have hptV:pt<V.heap.size:=hI.bk.lt;have hptW:pt<W.heap.size:=HX.out.1.bk.lt;have hqW:V.heap.size+1<W.heap.size:=Y.lt;have y4:=Y.cell 4;have y5:=Y.cell 5;have p31:=HX.out.1.bk.cell 31;simp [Ab.arr,Cx] at y4 y5 p31;have HW:=Hd hW;have HOK:=Hd hok;have HN:=Hd hN;have HCN:=Hd hcn;have HF:=Hd hf;clear hW hbW X Y hI hrow hat hok hN hcn hf;have hq45:V.heap.size<V.heap.size+1:=by omega
 go_enter Tryz.func40,Tryz.ntmps40;go_upto_region 1 with fail
 rw [HW.out];clear HW;generalize V.heap.size + 1=q5 at *;generalize V.heap.size=q4 at *;have b4:(n.kind != 2)=false:=by simp [hk]
 have HK:=Hd hk;replace y4:=fun x:Ext W=>Ag x.bel y4
 replace y5:=fun x:Ext W=>Ag x.bel y5
 replace p31:=fun x:Ext W=>Ag x.bel p31
 clear hk;refine Bg (by kernel_rfl) (by kernel_rfl) ?_
 repeat (go_big_quiet_step (fail))
 refine wpQuiet_nil ?_;rintro _ ⟨yy,rfl⟩;clear y4 y5 p31;have hb2:=yy.bel;generalize yy.w=w2 at hb2 ⊢;have HX2:=Hd (show Gk w B pt b z stone gc cc cnt st hp S R y w2/\Bk w2 q4 49 #[.slice A1 H.length c1,.slice A2 n2 c2,.slice A3 n3 c3]/\Bk w2 q5 68 n.arr/\Ad w2 A1 (Ak H) from ⟨HX.out.1.below hb2,HX.out.2.1.keep hb2,HX.out.2.2.1.keep hb2,HX.out.2.2.2.1.below hb2⟩)
 have hsz2:=hb2.size;obtain ⟨w3,hrun,hgt,hb3⟩:=make_ints cnt.length hN2 w2;rw [<- timesK_zero n.turns cnt] at hgt;have H3:=Hd (Ai hb3 hgt);have p32:=HX2.out.1.bk.cell 32;have p32b:=(HX2.out.1.below hb3).bk.cell 32;have y4:=(HX2.out.2.2.1.keep hb3).cell 4;simp [Ab.arr,Cx] at y4 p32 p32b;have k2:(n.kind == 2)=true:=by simpa using HK.out
 have ht:=HOK.out.turns HK.out;clear hb2 hb3 hgt;go_upto_region 6 with fail
 clear p32 p32b y4 hrun;go_loopw [38] (fun i wr=>∃ k:Nat,k<=cnt.length/\i=.int .i64 k/\Hid (Below w2.heap.size w2 wr/\Bk wr w2.heap.size 3 (Ac (Hs n.turns cnt k)).toArray)) (fun i _=>cnt.length - (intOf i).toNat)
 case atStart=>exact ⟨0,Nat.zero_le _,rfl,H3⟩
 case round =>
  clear H3;obtain ⟨k,hkk,rfl,H3⟩:=hrel
  by_cases hlt:k<cnt.length
  ·have hkI:(k:Int)<cnt.length:=by omega
   have cc0:=(HX2.out.1.below H3.out.1).cn.cell k;rw [List.getElem?_toArray,show (Ac cnt)[k]?=some (.int .i64 (cnt.getD k 0)) by rw [Aj _ _ hlt];simp [Ac,hlt]] at cc0
   have y7:=(HX2.out.2.2.1.keep H3.out.1).cell 7;simp [Ab.arr] at y7;have hcv:=HCN.out _ (Cg 0 hlt);have tk0:=H3.out.2.cell k;have HTL:=Hd (timesK_len n.turns cnt k (by omega))
   rw [List.getElem?_toArray,show (Ac (Hs n.turns cnt k))[k]?=some (.int .i64 ((Hs n.turns cnt k).getD k 0)) by rw [Aj _ _ (by rw [HTL.out];exact hlt)];simp [Ac,HTL.out,hlt]] at tk0
   have tf:=H3.out.2.fz k;have tl:=H3.out.2.lt;have gcl:=(HX2.out.1.below H3.out.1).cn.lt;have HP:=Hd (show Below w2.heap.size w2 (wr.setCell ⟨w2.heap.size,k,none⟩ (.int .i64 (n.turns*cnt.getD k 0)))/\Bk (wr.setCell ⟨w2.heap.size,k,none⟩ (.int .i64 (n.turns*cnt.getD k 0))) w2.heap.size 3 (Ac (Hs n.turns cnt (k+1))).toArray from
    ⟨H3.out.1.setCell (by simp) _,by
     have:=H3.out.2.put k (.int .i64 (n.turns*cnt.getD k 0))
     rwa [show (Ac (Hs n.turns cnt k)).toArray.setIfInBounds k (.int .i64 (n.turns*cnt.getD k 0))=(Ac (Hs n.turns cnt (k+1))).toArray by rw [<- timesK_set _ _ _ hlt];simp [Ac,List.map_set]] at this⟩)
   generalize cnt.getD k 0=cv at *;generalize (Hs n.turns cnt k).getD k 0=old at *;have hmul:0<=n.turns*cv/\n.turns*cv<=10000000:=⟨Int.mul_nonneg (by omega) hcv.1,by have:n.turns*cv<=10000*1000:=Int.mul_le_mul ht.2 hcv.2 hcv.1 (by omega);omega⟩
   have hw1:=IntWalk.i64_in (n.turns*cv) (by omega)
   clear H3;go_wp2_with fail;go_roundw
   case rel=>exact ⟨k+1,by omega,by go_num,HP⟩
   case measure=>simp [intOf];omega
  ·obtain rfl:k=cnt.length:=by omega
   rw [timesK_all] at H3;have I3:=HX2.out.1.below H3.out.1;have y16:=(HX2.out.2.2.1.keep H3.out.1).cell 16;have y17:=(HX2.out.2.2.1.keep H3.out.1).cell 17;simp [Ab.arr] at y16 y17;have l49:=Ct (HX2.out.2.1.keep H3.out.1) rfl;have HHO:=Hd (HeapOf_any H A1 A2 A3 c1 n2 c2 n3 c3 n.rh n.rn wr (HX2.out.2.2.2.below H3.out.1) (by omega))
   unfold Dv at HHO;have H4:=Hd (Ai I3 H3.out.2);have hst:=(show w.heap.size<=w2.heap.size by have:=HX2.out.1.bl.size;exact this)
   clear H3 I3;obtain ⟨i0,hi0,hz0,hz1,hz2⟩:=info_parts info62;generalize hvn:Ki H n.rh n.rn=vn at *;have HVN:=Hd hvn;clear hvn;go_upto_region 11 with (go_at_call 77;refine HHO.out.mono ?_;rintro e w5 ⟨rfl,hb5⟩;have H5:=Hd (show Gk w B pt b z stone gc cc cnt st hp S R y w5/\Bk w5 w2.heap.size 3 (Ac (cnt.map (n.turns * ·))).toArray from ⟨H4.out.1.below hb5,H4.out.2.keep hb5⟩);clear hb5)
   have p35:=H5.out.1.bk.cell 35;simp [Cx] at p35;have hpt5:=H5.out.1.bk.lt;have hbs:∀ X:World,X=w5->X.heap.size=w5.heap.size:=fun X h=>by rw [h]
   clear l49 y16 y17 HHO;go_wp2_with (at_builtin;refine wpList_append_own _ rfl _ _ 52 rfl B 62 i0 _ 5 56 Tryz.underlying52 hi0 hz0 hz1 hz2 rfl (by decide) (.slice y.kA S.length y.kc) S.length (Kt S) rfl (Ca H5.out.1.ks ((Below.refl _ _).alloc Le (.cells #[.int .i64 1,.int .i64 vn,.slice (some ⟨w2.heap.size,0,none⟩) cnt.length cnt.length,.int .i64 0,.int .i64 0] 62))) ⟨w5.heap.size,0,none⟩ 1 1 [.int .i64 1,.int .i64 vn,.slice (some ⟨w2.heap.size,0,none⟩) cnt.length cnt.length,.int .i64 0,.int .i64 0] rfl rfl (Gb (Aa rfl)) (by simp [Value.oneCell']) (by unfold maxLen;omega) (by omega) (by have:=H5.out.1.lt.2.2;simp;omega) ?_;intro v6 w6 hown6 hg6 _;obtain ⟨A6,c6,rfl,_,_,_⟩:=Au hown6;have hBx:Below w5.heap.size w5 (w5.alloc (.cells #[.int .i64 1,.int .i64 vn,.slice (some ⟨w2.heap.size,0,none⟩) cnt.length cnt.length,.int .i64 0,.int .i64 0] 62)):=Ba;have I6:=H5.out.1.below hBx;have B7:=(hg6.block pt I6.bk.lt (Bl I6.ks I6.bk (by decide))).trans I6.bk;have B7':Bk w6 pt 118 _:=B7;have c4:=B7'.cell 35;have f4:=B7'.fz 35;have l4:=B7'.lt;simp [Cx] at c4;have I7:=I6.pushStep (s:=⟨1,vn,cnt.map (n.turns * ·),some ⟨w2.heap.size,0,none⟩,cnt.length,0,0⟩) ⟨_,rfl,⟨hst,by simp⟩,H5.out.2.keep hBx⟩ (by simpa [Bh.cells] using hown6) hg6;have HEND:=Hd I7;clear hBx I6 B7 B7' I7 hown6 hg6)
   exact bodyPost_end (results_none rfl _ _ _) rfl ⟨rfl,_,_,_,HEND.out,by unfold Fh;rw [if_neg (fun h=>h.1 HK.out),if_pos HK.out,HVN.out];simp [Bh.plain]⟩
attribute [local go_sem ↓] Cd Dm Bu
theorem tell_strokes (w V:World) (B pt:Nat) (b:Al) (z:Df) (stone:Int) (gc cc:Nat) (cnt:List Int) (st hp:List (Int×Int)) (H:List EvD) (A1 A2 A3:Option Addr) (c1 n2 c2 n3 c3:Nat) (S:List Bh) (R:List Da) (y:StoL) (n:Ab)
  (hI:Gk w B pt b z stone gc cc cnt st hp S R y V) (hf:b.fr.Ok) (hrow:Ad V A1 (Ak H)) (hH:H.length<=400) (hat:n.At V) (hok:TellOk b n) (hN:(cnt.length:Int)=b.bed.rings*b.bed.sec) (hN2:cnt.length<=256) (hcn:Kn 1000 cnt) (hS:S.length<=400) (hR:R.length<=400) (hk:n.kind=4) (hs:n.stone=stone) :
  Calls Tryz.prog 40 #[.pointer (some ⟨pt,0,none⟩),Dv A1 H.length c1 A2 n2 c2 A3 n3 c3,.agg n.arr] V (TellP w B pt b z stone gc cc cnt st hp H S R n):=by
 unfold Dv;obtain ⟨W,hW⟩:∃ W,(V.alloc (.cells #[.slice A1 H.length c1,.slice A2 n2 c2,.slice A3 n3 c3] 49)).alloc (.cells n.arr 68)=W:=⟨_,rfl⟩;have hbW:Below V.heap.size V W:=by rw [<- hW];exact Ba.alloc (by simp) _
 have X:Bk W V.heap.size 49 #[.slice A1 H.length c1,.slice A2 n2 c2,.slice A3 n3 c3]:=by rw [<- hW];exact (Aa rfl).alloc _
 have Y:Bk W (V.heap.size+1) 68 n.arr:=by rw [<- hW];exact Aa (by simp)
 have HX:=Hd (show Gk w B pt b z stone gc cc cnt st hp S R y W/\Bk W V.heap.size 49 #[.slice A1 H.length c1,.slice A2 n2 c2,.slice A3 n3 c3]/\Bk W (V.heap.size+1) 68 n.arr/\Ad W A1 (Ak H)/\n.At W from ⟨hI.below hbW,X,Y,hrow.below hbW,hat.below hbW⟩)
 have hptV:pt<V.heap.size:=hI.bk.lt;have hptW:pt<W.heap.size:=HX.out.1.bk.lt;have hqW:V.heap.size+1<W.heap.size:=Y.lt;have y4:=Y.cell 4;have y5:=Y.cell 5;have p31:=HX.out.1.bk.cell 31;simp [Ab.arr,Cx] at y4 y5 p31;have HW:=Hd hW;have HOK:=Hd hok;have HN:=Hd hN;have HCN:=Hd hcn;have HF:=Hd hf;clear hW hbW X Y hI hrow hat hok hN hcn hf;have hq45:V.heap.size<V.heap.size+1:=by omega
 go_enter Tryz.func40,Tryz.ntmps40;go_upto_region 1 with fail
 rw [HW.out];clear HW;generalize V.heap.size + 1=q5 at *;generalize V.heap.size=q4 at *;have b4:(n.kind != 2)=true:=by simp [hk]
 have b5:(n.stone != stone)=false:=by simpa using hs
 have HK:=Hd (Ai hk hs);replace y4:=fun x:Ext W=>Ag x.bel y4
 replace y5:=fun x:Ext W=>Ag x.bel y5
 replace p31:=fun x:Ext W=>Ag x.bel p31
 clear hk hs;refine Bg (by kernel_rfl) (by kernel_rfl) ?_
 repeat (go_big_quiet_step (fail))
 refine wpQuiet_nil ?_;rintro _ ⟨yy,rfl⟩;clear y4 y5 p31;have hb2:=yy.bel;generalize yy.w=w2 at hb2 ⊢;have HX2:=Hd (show Gk w B pt b z stone gc cc cnt st hp S R y w2/\Bk w2 q5 68 n.arr/\n.At w2 from ⟨HX.out.1.below hb2,HX.out.2.2.1.keep hb2,HX.out.2.2.2.2.below hb2⟩)
 have hsz2:=hb2.size;obtain ⟨w3,hrun,hgt,hb3⟩:=make_ints cnt.length hN2 w2;have H3:=Hd (Ai hb3 hgt);have p32:=HX2.out.1.bk.cell 32;have p32b:=(HX2.out.1.below hb3).bk.cell 32;have y4:=(HX2.out.2.1.keep hb3).cell 4;simp [Ab.arr,Cx] at y4 p32 p32b;have k2:(n.kind == 2)=false:=by simp [HK.out.1]
 have k4:(n.kind == 4)=true:=by simp [HK.out.1]
 have hri:=HOK.out.ring HK.out.1;have hst:=HOK.out.str HK.out.1;have hse:0<=b.bed.sec:=by have:=HF.out.s0;simp only [Al.fr] at this;omega
 have hm0:0<=n.ring*b.bed.sec:=Int.mul_nonneg hri.1 hse;have hm1:n.ring*b.bed.sec+b.bed.sec<=cnt.length:=by
  rw [HN.out];have:(n.ring+1)*b.bed.sec<=b.bed.rings*b.bed.sec:=Int.mul_le_mul_of_nonneg_right (by omega) hse
  rw [Int.add_mul] at this;omega
 obtain ⟨rs,hrs⟩:∃ rs:Nat,n.ring*b.bed.sec=rs:=⟨(n.ring*b.bed.sec).toNat,by omega⟩
 have hsec2:2<=b.bed.sec:=HF.out.s0;have hrsN:rs<cnt.length:=by omega
 have hw1:IntKind.i64.wrap (n.ring*b.bed.sec)=(rs:Int):=by rw [<- hrs];exact IntWalk.i64_in _ (by omega)
 have HRS:=Hd hrs;have HAG:Hid (∀ a,n.sA=some a->n.strokes.length≠0->a.block<w2.heap.size):=Hd fun a ha h0=>by
  obtain ⟨bb,oo,e1,e2,_⟩:=HX2.out.2.2 (by simp [Ac];omega)
  rw [ha] at e1;injection e1 with e1
  rw [e1];exact e2
 have HCV:=Hd (fun (X:World) (hX:Below w3.heap.size w3 X)=>(show Calls Tryz.prog 83 #[.agg #[.int .i64 b.bed.rings,.int .i64 b.bed.sec,.int .i64 b.wide],.slice (some ⟨w2.heap.size,rs,none⟩) (cnt.length - rs) (cnt.length - rs),.slice n.sA n.strokes.length n.sc] X fun e w'=>e=.returned (.tuple #[])/\Bk w' w2.heap.size 3 (Ac (covered b.wide.toNat rs (List.replicate cnt.length 0) n.strokes)).toArray/\X.grownBy w' (some w2.heap.size) from by
  have hb23:=hb3.trans (hX.mono hb3.size);have:=covers_any b.fr HF.out w2.heap.size rs (cnt.length - rs) n.sc (List.replicate cnt.length 0) n.strokes n.sA X (H3.out.2.keep hX) (HX2.out.2.2.below hb23) (fun a ha=>by have:=HAG.out a ha (by omega);omega) (by simp;omega) (by simp;omega) (fun s hs=>by
   have h1:=hst.2 s hs;rw [List.length_replicate];exact ⟨h1.1,by show s+b.wide<=_;omega⟩) hst.1.2 (fun x hx=>by rw [List.eq_of_mem_replicate hx];exact ⟨Int.le_refl _,Int.le_refl _⟩)
  rw [List.length_replicate] at this;exact this))
 clear hb2 hb3 hgt hri hst hm0 hm1 hrs;go_upto_region 13 with fail
 clear p32 p32b y4 hrun;have c0:=(HX2.out.1.below H3.out.1).bk.cell 0;have c1':=(HX2.out.1.below H3.out.1).bk.cell 1;have c2':=(HX2.out.1.below H3.out.1).bk.cell 2;have y14:=(HX2.out.2.1.keep H3.out.1).cell 14;have y15:=(HX2.out.2.1.keep H3.out.1).cell 15;simp [Ab.arr,Cx] at c0 c1' c2' y14 y15;replace c0:=fun x:Ext w3=>Ag x.bel c0
 replace c1':=fun x:Ext w3=>Ag x.bel c1'
 replace c2':=fun x:Ext w3=>Ag x.bel c2'
 replace y14:=fun x:Ext w3=>Ag x.bel y14
 replace y15:=fun x:Ext w3=>Ag x.bel y15
 refine By 17 (by kernel_rfl) (by kernel_rfl) (fun _ _ d _ _ h=>by cases d<;>exact h) ?_
 simp only [List.take_succ_cons,List.take_zero,List.drop_succ_cons,List.drop_zero];repeat (go_big_quiet_step (fail))
 refine wpQuiet_nil ?_;rintro _ ⟨yy,rfl⟩;clear c0 c1' c2' y14 y15;have hb4:=yy.bel;generalize yy.w=w4 at hb4 ⊢;have HC4:=Hd (HCV.out w4 hb4);have hB24:=H3.out.1.trans (hb4.mono H3.out.1.size);have HB4:=Hd hB24;clear hb4 hB24 hw1 HCV;go_upto_region 14 with (go_at_call 83;refine HC4.out.mono ?_;rintro e w5 ⟨rfl,hg5,hgr5⟩;have H5:=Hd (show Below w2.heap.size w2 w5/\Bk w5 w2.heap.size 3 (Ac (covered b.wide.toNat rs (List.replicate cnt.length 0) n.strokes)).toArray from ⟨HB4.out.grown hgr5 HB4.out.size (fun r e=>by injection e with e;omega),hg5⟩);clear hg5 hgr5)
 have HL:=Hd (show (covered b.wide.toNat rs (List.replicate cnt.length 0) n.strokes).length=cnt.length by rw [covered_len,List.length_replicate])
 obtain ⟨CL,hCL⟩:∃ CL,covered b.wide.toNat rs (List.replicate cnt.length 0) n.strokes=CL:=⟨_,rfl⟩;rw [hCL] at H5 HL;have HCL:=Hd hCL;clear hCL;have hst:=(show w.heap.size<=w2.heap.size by have:=HX2.out.1.bl.size;exact this)
 obtain ⟨i0,hi0,hz0,hz1,hz2⟩:=info_parts info62;have I5:=HX2.out.1.below H5.out.1;have J5:=fun x:Ext w5=>I5.below x.bel
 have c21:=fun x:Ext w5=>(show x.w.cell? ⟨pt,21,none⟩=some (.int .i64 b.dlo) from ((J5 x).bk.cell 21).trans rfl)
 have c22:=fun x:Ext w5=>(show x.w.cell? ⟨pt,22,none⟩=some (.int .i64 b.dhi) from ((J5 x).bk.cell 22).trans rfl)
 have c35:=fun x:Ext w5=>(show x.w.cell? ⟨pt,35,none⟩=some (.slice y.kA S.length y.kc) from ((J5 x).bk.cell 35).trans rfl)
 have HJ5:=Hd J5;have HH5:=Hd H5.out.2;clear I5 J5 H5 HC4;refine Gy 1 6 13 _ (by kernel_rfl) (by kernel_rfl) rfl (fun _ _ d _ _ h=>by cases d<;>exact h) ?_
 simp only [List.take_succ_cons,List.take_zero,List.drop_succ_cons,List.drop_zero];repeat (go_big_quiet_step (fail))
 refine wpQuiet_nil ?_;refine ⟨rfl,?_⟩;rintro _ ⟨y6,rfl⟩;have hBx:Below w5.heap.size w5 (y6.w.alloc (.cells #[.int .i64 2,.int .i64 0,.slice (some ⟨w2.heap.size,0,none⟩) cnt.length cnt.length,.int .i64 b.dlo,.int .i64 b.dhi] 62)):=y6.bel.alloc y6.bel.size _;refine ⟨.slice (some ⟨y6.w.heap.size,0,none⟩) 1 1,y6.w.alloc (.cells #[.int .i64 2,.int .i64 0,.slice (some ⟨w2.heap.size,0,none⟩) cnt.length cnt.length,.int .i64 b.dlo,.int .i64 b.dhi] 62),by kernel_rfl,⟨⟨_,hBx⟩,rfl⟩,?_⟩
 clear c21 c22 c35;have I6:=HJ5.out ⟨_,hBx⟩;have hg6:∃ g,(some ⟨w2.heap.size,0,none⟩:Option Addr)=some ⟨g,0,none⟩/\(w.heap.size<=g/\CL.length<=cnt.length)/\Bk (y6.w.alloc (.cells #[.int .i64 2,.int .i64 0,.slice (some ⟨w2.heap.size,0,none⟩) cnt.length cnt.length,.int .i64 b.dlo,.int .i64 b.dhi] 62)) g 3 (Ac CL).toArray:=⟨_,rfl,⟨hst,by rw [HL.out];exact Nat.le_refl _⟩,HH5.out.keep hBx⟩
 refine wpList_append_own _ rfl _ _ 52 rfl B 62 i0 _ 5 56 Tryz.underlying52 hi0 hz0 hz1 hz2 rfl (by decide) (.slice y.kA S.length y.kc) S.length (Kt S) rfl I6.ks ⟨y6.w.heap.size,0,none⟩ 1 1 [.int .i64 2,.int .i64 0,.slice (some ⟨w2.heap.size,0,none⟩) cnt.length cnt.length,.int .i64 b.dlo,.int .i64 b.dhi] rfl rfl (Gb (Aa rfl)) (by simp [Value.oneCell']) (by unfold maxLen;omega) (by omega) I6.lt.2.2 ?_
 intro v6 w6 hown6 hg7 _;obtain ⟨A6,c6,rfl,_,_,_⟩:=Au hown6;have B7:Bk w6 pt 118 (Cx b z stone gc cnt.length cc y st.length hp.length S.length R.length):=(hg7.block pt I6.bk.lt (Bl I6.ks I6.bk (by decide))).trans I6.bk
 have c4:=B7.cell 35;have f4:=B7.fz 35;have l4:=B7.lt;simp [Cx] at c4;have HEND:=Hd (I6.pushStep (s:=⟨2,0,CL,some ⟨w2.heap.size,0,none⟩,cnt.length,b.dlo,b.dhi⟩) hg6 (by simpa [Bh.cells,HL.out] using hown6) hg7)
 clear B7 hown6 hg7 I6 hg6 hBx HJ5 HH5
 focus
  go_wp2_with fail;exact bodyPost_end (results_none rfl _ _ _) rfl ⟨rfl,_,_,_,HEND.out,by
   unfold Fh;rw [if_neg (fun h=>h.2 HK.out.2),if_neg (show ¬ n.kind=2 by rw [HK.out.1];omega),if_pos HK.out.1,HRS.out,Int.toNat_natCast,HCL.out]
   simp [Bh.plain]⟩
attribute [local go_sem ↓] Cd Dm Bu
theorem tell_read (w V:World) (B pt:Nat) (b:Al) (z:Df) (stone:Int) (gc cc:Nat) (cnt:List Int) (st hp:List (Int×Int)) (H:List EvD) (A1 A2 A3:Option Addr) (c1 n2 c2 n3 c3:Nat) (S:List Bh) (R:List Da) (y:StoL) (n:Ab)
  (hI:Gk w B pt b z stone gc cc cnt st hp S R y V) (hf:b.fr.Ok) (hrow:Ad V A1 (Ak H)) (hH:H.length<=400) (hat:n.At V) (hok:TellOk b n) (hN:(cnt.length:Int)=b.bed.rings*b.bed.sec) (hN2:cnt.length<=256) (hcn:Kn 1000 cnt) (hS:S.length<=400) (hR:R.length<=400) (hk:n.kind=3) (hs:n.stone=stone) :
  Calls Tryz.prog 40 #[.pointer (some ⟨pt,0,none⟩),Dv A1 H.length c1 A2 n2 c2 A3 n3 c3,.agg n.arr] V (TellP w B pt b z stone gc cc cnt st hp H S R n):=by
 unfold Dv;obtain ⟨W,hW⟩:∃ W,(V.alloc (.cells #[.slice A1 H.length c1,.slice A2 n2 c2,.slice A3 n3 c3] 49)).alloc (.cells n.arr 68)=W:=⟨_,rfl⟩;have hbW:Below V.heap.size V W:=by rw [<- hW];exact Ba.alloc (by simp) _
 have X:Bk W V.heap.size 49 #[.slice A1 H.length c1,.slice A2 n2 c2,.slice A3 n3 c3]:=by rw [<- hW];exact (Aa rfl).alloc _
 have Y:Bk W (V.heap.size+1) 68 n.arr:=by rw [<- hW];exact Aa (by simp)
 have HX:=Hd (show Gk w B pt b z stone gc cc cnt st hp S R y W/\Bk W V.heap.size 49 #[.slice A1 H.length c1,.slice A2 n2 c2,.slice A3 n3 c3]/\Bk W (V.heap.size+1) 68 n.arr/\Ad W A1 (Ak H)/\n.At W from ⟨hI.below hbW,X,Y,hrow.below hbW,hat.below hbW⟩)
 have hptV:pt<V.heap.size:=hI.bk.lt;have hptW:pt<W.heap.size:=HX.out.1.bk.lt;have hqW:V.heap.size+1<W.heap.size:=Y.lt;have y4:=Y.cell 4;have y5:=Y.cell 5;have p31:=HX.out.1.bk.cell 31;simp [Ab.arr,Cx] at y4 y5 p31;have HW:=Hd hW;have HOK:=Hd hok;have HN:=Hd hN;have HCN:=Hd hcn;have HF:=Hd hf;clear hW hbW X Y hI hrow hat hok hN hcn hf;have hq45:V.heap.size<V.heap.size+1:=by omega
 go_enter Tryz.func40,Tryz.ntmps40;go_upto_region 1 with fail
 rw [HW.out];clear HW;generalize V.heap.size + 1=q5 at *;generalize V.heap.size=q4 at *;have b4:(n.kind != 2)=true:=by simp [hk]
 have b5:(n.stone != stone)=false:=by simpa using hs
 have HK:=Hd (Ai hk hs);replace y4:=fun x:Ext W=>Ag x.bel y4
 replace y5:=fun x:Ext W=>Ag x.bel y5
 replace p31:=fun x:Ext W=>Ag x.bel p31
 clear hk hs;refine Bg (by kernel_rfl) (by kernel_rfl) ?_
 repeat (go_big_quiet_step (fail))
 refine wpQuiet_nil ?_;rintro _ ⟨yy,rfl⟩;clear y4 y5 p31;have hb2:=yy.bel;generalize yy.w=w2 at hb2 ⊢;have HX2:=Hd (show Gk w B pt b z stone gc cc cnt st hp S R y w2/\Bk w2 q5 68 n.arr/\n.At w2 from ⟨HX.out.1.below hb2,HX.out.2.2.1.keep hb2,HX.out.2.2.2.2.below hb2⟩)
 have hsz2:=hb2.size;obtain ⟨w3,hrun,hgt,hb3⟩:=make_ints cnt.length hN2 w2;have H3:=Hd (Ai hb3 hgt);have p32:=HX2.out.1.bk.cell 32;have p32b:=(HX2.out.1.below hb3).bk.cell 32;have y4:=(HX2.out.2.1.keep hb3).cell 4;simp [Ab.arr,Cx] at y4 p32 p32b;have k2:(n.kind == 2)=false:=by simp [HK.out.1]
 have k4:(n.kind == 4)=false:=by simp [HK.out.1]
 have k3:(n.kind == 3)=true:=by simp [HK.out.1]
 clear hb2 hb3 hgt;go_upto_region 16 with fail
 clear p32 p32b y4 hrun;obtain ⟨i0,hi0,hz0,hz1,hz2⟩:=info_parts info186;have J3:=fun x:Ext w3=>(HX2.out.1.below H3.out.1).below x.bel
 have Y3:=fun x:Ext w3=>(show Bk x.w q5 68 n.arr from (HX2.out.2.1.keep H3.out.1:Bk w3 q5 68 n.arr).keep x.bel)
 have c35:=fun x:Ext w3=>(show x.w.cell? ⟨pt,35,none⟩=some (.slice y.kA S.length y.kc) from ((J3 x).bk.cell 35).trans rfl)
 have c36:=fun x:Ext w3=>(show x.w.cell? ⟨pt,36,none⟩=some (.slice y.rA R.length y.rc) from ((J3 x).bk.cell 36).trans rfl)
 have d12:=fun x:Ext w3=>(show x.w.cell? ⟨q5,12,none⟩=some (.int .i64 n.a) from ((Y3 x).cell 12).trans rfl)
 have d13:=fun x:Ext w3=>(show x.w.cell? ⟨q5,13,none⟩=some (.int .i64 n.b) from ((Y3 x).cell 13).trans rfl)
 have d10:=fun x:Ext w3=>(show x.w.cell? ⟨q5,10,none⟩=some (.int .i64 n.dlo) from ((Y3 x).cell 10).trans rfl)
 have d11:=fun x:Ext w3=>(show x.w.cell? ⟨q5,11,none⟩=some (.int .i64 n.dhi) from ((Y3 x).cell 11).trans rfl)
 have HJ3:=Hd J3;clear J3 Y3 H3;refine Gy 1 6 19 _ (by kernel_rfl) (by kernel_rfl) rfl (fun _ _ d _ _ h=>by cases d<;>exact h) ?_
 simp only [List.take_succ_cons,List.take_zero,List.drop_succ_cons,List.drop_zero];repeat (go_big_quiet_step (fail))
 refine wpQuiet_nil ?_;refine ⟨rfl,?_⟩;rintro _ ⟨y6,rfl⟩;have hBx:Below w3.heap.size w3 (y6.w.alloc (.cells #[.int .i64 (S.length:Int),.int .i64 n.a,.int .i64 n.b,.int .i64 n.dlo,.int .i64 n.dhi] 186)):=y6.bel.alloc y6.bel.size _;refine ⟨.slice (some ⟨y6.w.heap.size,0,none⟩) 1 1,y6.w.alloc (.cells #[.int .i64 (S.length:Int),.int .i64 n.a,.int .i64 n.b,.int .i64 n.dlo,.int .i64 n.dhi] 186),by kernel_rfl,⟨⟨_,hBx⟩,rfl⟩,?_⟩
 clear c35 c36 d12 d13 d10 d11;have I6:=HJ3.out ⟨_,hBx⟩;refine wpList_append_own _ rfl _ _ 53 rfl B 186 i0 _ 5 40 Tryz.underlying53 hi0 hz0 hz1 hz2 rfl (by decide) (.slice y.rA R.length y.rc) R.length (rdCells R) rfl I6.rs ⟨y6.w.heap.size,0,none⟩ 1 1 [.int .i64 (S.length:Int),.int .i64 n.a,.int .i64 n.b,.int .i64 n.dlo,.int .i64 n.dhi] rfl rfl (Gb (Aa rfl)) (by simp [Value.oneCell']) (by unfold maxLen;omega) (by omega) I6.lt.2.2 ?_
 intro v6 w6 hown6 hg7 _;obtain ⟨A6,c6,rfl,_,_,_⟩:=Au hown6;have B7:Bk w6 pt 118 (Cx b z stone gc cnt.length cc y st.length hp.length S.length R.length):=(hg7.block pt I6.bk.lt (Bl I6.rs I6.bk (by decide))).trans I6.bk
 have c4:=B7.cell 36;have f4:=B7.fz 36;have l4:=B7.lt;simp [Cx] at c4;have HEND:=Hd (I6.pushRead (r:=⟨S.length,n.a,n.b,n.dlo,n.dhi⟩) (by simpa [Da.cells] using hown6) hg7)
 clear B7 hown6 hg7 I6 hBx HJ3
 focus
  go_wp2_with fail;exact bodyPost_end (results_none rfl _ _ _) rfl ⟨rfl,_,_,_,HEND.out,by
   unfold Fh;rw [if_neg (fun h=>h.2 HK.out.2),if_neg (show ¬ n.kind=2 by rw [HK.out.1];omega),if_neg (show ¬ n.kind=4 by rw [HK.out.1];omega)]
   simp⟩
attribute [local go_sem ↓] Cd Dm Bu
theorem tell_any (w V:World) (B pt:Nat) (b:Al) (z:Df) (stone:Int) (gc cc:Nat) (cnt:List Int) (st hp:List (Int×Int)) (H:List EvD) (A1 A2 A3:Option Addr) (c1 n2 c2 n3 c3:Nat) (S:List Bh) (R:List Da) (y:StoL) (n:Ab)
  (hI:Gk w B pt b z stone gc cc cnt st hp S R y V) (hf:b.fr.Ok) (hrow:Ad V A1 (Ak H)) (hH:H.length<=400) (hat:n.At V) (hok:TellOk b n) (hN:(cnt.length:Int)=b.bed.rings*b.bed.sec) (hN2:cnt.length<=256) (hcn:Kn 1000 cnt) (hS:S.length<=400) (hR:R.length<=400)  :
  Calls Tryz.prog 40 #[.pointer (some ⟨pt,0,none⟩),Dv A1 H.length c1 A2 n2 c2 A3 n3 c3,.agg n.arr] V (TellP w B pt b z stone gc cc cnt st hp H S R n):=by
 by_cases h1:n.kind≠2/\n.stone≠stone
 ·exact tell_skip w V B pt b z stone gc cc cnt st hp H A1 A2 A3 c1 n2 c2 n3 c3 S R y n hI hf hrow hH hat hok hN hN2 hcn hS hR h1
 ·by_cases h2:n.kind=2
  ·exact tell_pass w V B pt b z stone gc cc cnt st hp H A1 A2 A3 c1 n2 c2 n3 c3 S R y n hI hf hrow hH hat hok hN hN2 hcn hS hR h2
  ·have h3:n.stone=stone:=by
    by_cases h4:n.stone=stone
    ·exact h4
    ·exact absurd ⟨h2,h4⟩ h1
   rcases hok.kind with hk | hk | hk
   ·exact absurd hk h2
   ·exact tell_read w V B pt b z stone gc cc cnt st hp H A1 A2 A3 c1 n2 c2 n3 c3 S R y n hI hf hrow hH hat hok hN hN2 hcn hS hR hk h3
   ·exact tell_strokes w V B pt b z stone gc cc cnt st hp H A1 A2 A3 c1 n2 c2 n3 c3 S R y n hI hf hrow hH hat hok hN hN2 hcn hS hR hk h3
end Go.Proofs.YteihcodicfoiaaaGreat
