/-
  What is proved: contracts and plain facts that TopForget stands on (WrK, Rep, WrO).
-/
import Derived.Test.YteihcodicfoiaaaGreatWrJMf
import Derived.Test.YteihcodicfoiaaaGreatKeepMf
import Derived.Test.YteihcodicfoiaaaGreat0Mf
import Derived.BigQuiet
import Derived.Shelf.Bits.Mul64
import Derived.Laws.CopyRow
import Derived.Test.YteihcodicfoiaaaGreat46Mf
import Derived.Test.YteihcodicfoiaaaGreat25Mf
import Derived.Test.YteihcodicfoiaaaGreat40Mf
import Derived.Shelf.SlicesQ.Reverse
namespace Go.Proofs.YteihcodicfoiaaaGreat
set_option maxRecDepth 100000
set_option maxHeartbeats 8000000
open Go Go.RowKit
section
def endF (turned:Bool) (b:Ao):Int×Int:=if turned then b.dst else b.fr
def endZ (turned:Bool) (b:Ao):Int×Int:=if turned then b.fr else b.dst
theorem put4 {w V:World} {q r:Nat} {u0 u1 v0 v1:Value} (hq:Bk V q 141 #[u0,u1]) (hr:Bk V r 141 #[v0,v1]) (hne:q≠r) (hb:Below w.heap.size w V) (h1:w.heap.size<=q) (h2:w.heap.size<=r) (a b c d:Value) :
  Bk ((((V.setCell ⟨q,0,none⟩ a).setCell ⟨q,1,none⟩ b).setCell ⟨r,0,none⟩ c).setCell ⟨r,1,none⟩ d) q 141 #[a,b]/\Bk ((((V.setCell ⟨q,0,none⟩ a).setCell ⟨q,1,none⟩ b).setCell ⟨r,0,none⟩ c).setCell ⟨r,1,none⟩ d) r 141 #[c,d] /\
   Below w.heap.size w ((((V.setCell ⟨q,0,none⟩ a).setCell ⟨q,1,none⟩ b).setCell ⟨r,0,none⟩ c).setCell ⟨r,1,none⟩ d) :=
 ⟨(((hq.put 0 a).put 1 b).far (p:=⟨r,0,none⟩) hne c).far (p:=⟨r,1,none⟩) hne d,(((hr.far (p:=⟨q,0,none⟩) (Ne.symm hne) a).far (p:=⟨q,1,none⟩) (Ne.symm hne) b).put 0 c).put 1 d,
  (((hb.setCell (p:=⟨q,0,none⟩) h1 a).setCell (p:=⟨q,1,none⟩) h1 b).setCell (p:=⟨r,0,none⟩) h2 c).setCell (p:=⟨r,1,none⟩) h2 d⟩
theorem ends_of (b:Ao) (turned:Bool) (w:World) :
  Calls Tryz.prog 193 #[.agg #[.int .i64 b.fr.1,.int .i64 b.fr.2,.int .i64 b.dst.1,.int .i64 b.dst.2,.int .i64 b.most,.int .i64 b.kind,.int .i64 b.id],.bool turned] w fun e w'=>e=.returned (.tuple #[.agg #[.int .i64 (endF turned b).1,.int .i64 (endF turned b).2],.agg #[.int .i64 (endZ turned b).1,.int .i64 (endZ turned b).2]])/\Below w.heap.size w w':=by
 obtain ⟨⟨a1,a2⟩,⟨z1,z2⟩,most,kind,id⟩:=b;simp only [endF,endZ];obtain ⟨W,hW⟩:∃ W,((w.alloc (.cells #[.int .i64 a1,.int .i64 a2,.int .i64 z1,.int .i64 z2,.int .i64 most,.int .i64 kind,.int .i64 id] 319)).alloc (.cells #[.int .i64 0,.int .i64 0] 141)).alloc (.cells #[.int .i64 0,.int .i64 0] 141)=W:=⟨_,rfl⟩;have hbW:Below w.heap.size w W:=by rw [<- hW];exact (Ba.alloc (by simp) _).alloc (by simp;omega) _
 have X:Bk W w.heap.size 319 #[.int .i64 a1,.int .i64 a2,.int .i64 z1,.int .i64 z2,.int .i64 most,.int .i64 kind,.int .i64 id]:=by rw [<- hW];exact ((Aa rfl).alloc _).alloc _
 have Y:Bk W (w.heap.size+1) 141 #[.int .i64 0,.int .i64 0]:=by rw [<- hW];exact (Aa (by simp)).alloc _
 have Z:Bk W (w.heap.size+1+1) 141 #[.int .i64 0,.int .i64 0]:=by rw [<- hW];exact Aa (by simp)
 have HW:=Hd hW;have x0:=X.cell 0;have x1:=X.cell 1;have x2:=X.cell 2;have x3:=X.cell 3;have y0:=Y.cell 0;have y1:=Y.cell 1;have z0:=Z.cell 0;have z1':=Z.cell 1;have fy0:=Y.fz 0;have fy1:=Y.fz 1;have fz0:=Z.fz 0;have fz1:=Z.fz 1;have zl:=Z.lt;simp at x0 x1 x2 x3 y0 y1 z0 z1';have hn1:w.heap.size+1≠w.heap.size+1+1:=by omega
 obtain ⟨Y2,Z2,hB2⟩:=put4 Y Z hn1 hbW (by omega) (by omega) (.int .i64 a1) (.int .i64 a2) (.int .i64 z1) (.int .i64 z2)
 replace Y2:=Y2.drew;replace Z2:=Z2.drew;replace hB2:=hB2.drew;have HV:=Hd (Ai Y2 (Ai Z2 hB2));clear hW hbW X Y Z Y2 Z2 hB2;cases turned with
 | true =>
  go_enter Tryz.func193,Tryz.ntmps193;go_upto_region 1 with fail
  rw [HW.out];clear HW;go_region;clear x0 x1 x2 x3 y0 y1 z0 z1' fy0 fy1 fz0 fz1 zl;generalize ((((W.setCell ⟨w.heap.size + 1,0,none⟩ (.int .i64 a1)).setCell ⟨w.heap.size + 1,1,none⟩ (.int .i64 a2)).setCell ⟨w.heap.size + 1 + 1,0,none⟩ (.int .i64 z1)).setCell ⟨w.heap.size + 1 + 1,1,none⟩ (.int .i64 z2)).drew=V at *;have y0:=HV.out.1.cell 0;have y1:=HV.out.1.cell 1;have z0:=HV.out.2.1.cell 0;have z1':=HV.out.2.1.cell 1;have fy0:=HV.out.1.fz 0;have fy1:=HV.out.1.fz 1;have fz0:=HV.out.2.1.fz 0;have fz1:=HV.out.2.1.fz 1;have zl:=HV.out.2.1.lt;simp at y0 y1 z0 z1';go_wp2_with fail;obtain ⟨Y3,Z3,hB3⟩:=put4 HV.out.1 HV.out.2.1 hn1 HV.out.2.2 (by omega) (by omega) (.int .i64 z1) (.int .i64 z2) (.int .i64 a1) (.int .i64 a2)
  have c0:=Y3.cell 0;have c1:=Y3.cell 1;have d0:=Z3.cell 0;have d1:=Z3.cell 1;have HE:=Hd hB3;clear Y3 Z3 hB3 y0 y1 z0 z1' fy0 fy1 fz0 fz1 zl;generalize ((((V.setCell ⟨w.heap.size + 1,0,none⟩ (.int .i64 z1)).setCell ⟨w.heap.size + 1,1,none⟩ (.int .i64 z2)).setCell ⟨w.heap.size + 1 + 1,0,none⟩ (.int .i64 a1)).setCell ⟨w.heap.size + 1 + 1,1,none⟩ (.int .i64 a2))=F at *;simp at c0 c1 d0 d1;exact bodyPost_ret (v:=.tuple #[.agg #[.int .i64 z1,.int .i64 z2],.agg #[.int .i64 a1,.int .i64 a2]]) (by simp [results,Tryz.results193,go_sem,Tryz.underlying141,c0,c1,d0,d1]) rfl ⟨rfl,HE.out⟩
 | false =>
  go_enter Tryz.func193,Tryz.ntmps193;go_upto_region 1 with fail
  rw [HW.out];clear HW;go_region;clear x0 x1 x2 x3 y0 y1 z0 z1' fy0 fy1 fz0 fz1 zl;generalize ((((W.setCell ⟨w.heap.size + 1,0,none⟩ (.int .i64 a1)).setCell ⟨w.heap.size + 1,1,none⟩ (.int .i64 a2)).setCell ⟨w.heap.size + 1 + 1,0,none⟩ (.int .i64 z1)).setCell ⟨w.heap.size + 1 + 1,1,none⟩ (.int .i64 z2)).drew=V at *;have y0:=HV.out.1.cell 0;have y1:=HV.out.1.cell 1;have z0:=HV.out.2.1.cell 0;have z1':=HV.out.2.1.cell 1;have fy0:=HV.out.1.fz 0;have fy1:=HV.out.1.fz 1;have fz0:=HV.out.2.1.fz 0;have fz1:=HV.out.2.1.fz 1;have zl:=HV.out.2.1.lt;simp at y0 y1 z0 z1';go_upto_region 4 with fail
  go_region;go_wp2_with fail;obtain ⟨Y3,Z3,hB3⟩:=put4 HV.out.1 HV.out.2.1 hn1 HV.out.2.2 (by omega) (by omega) (.int .i64 a1) (.int .i64 a2) (.int .i64 z1) (.int .i64 z2)
  replace Y3:=Y3.drew;replace Z3:=Z3.drew;replace hB3:=hB3.drew;have c0:=Y3.cell 0;have c1:=Y3.cell 1;have d0:=Z3.cell 0;have d1:=Z3.cell 1;have HE:=Hd hB3;clear Y3 Z3 hB3 y0 y1 z0 z1' fy0 fy1 fz0 fz1 zl;generalize ((((V.setCell ⟨w.heap.size + 1,0,none⟩ (.int .i64 a1)).setCell ⟨w.heap.size + 1,1,none⟩ (.int .i64 a2)).setCell ⟨w.heap.size + 1 + 1,0,none⟩ (.int .i64 z1)).setCell ⟨w.heap.size + 1 + 1,1,none⟩ (.int .i64 z2)).drew=F at *;simp at c0 c1 d0 d1;exact bodyPost_ret (v:=.tuple #[.agg #[.int .i64 a1,.int .i64 a2],.agg #[.int .i64 z1,.int .i64 z2]]) (by simp [results,Tryz.results193,go_sem,Tryz.underlying141,c0,c1,d0,d1]) rfl ⟨rfl,HE.out⟩
end
section
theorem mul64 (x y:Nat) (hx:x<18446744073709551616) (hy:y<18446744073709551616) (w:World) :
  Calls Tryz.prog 232 #[.int .u64 x,.int .u64 y] w fun e w'=>e=.returned (.tuple #[.int .u64 ((x*y / 18446744073709551616:Nat):Int),.int .u64 ((x*y % 18446744073709551616:Nat):Int)])/\w'=w:=by
 obtain ⟨bd,bt,bw,hhi⟩:=Lib.mul64_hi x y hx hy;have ba:=Lib.half_mul_le (a:=x / 4294967296) (b:=y / 4294967296) (by omega) (by omega)
 have bb:=Lib.half_mul_le (a:=x / 4294967296) (b:=y % 4294967296) (by omega) (by omega)
 have bc:=Lib.half_mul_le (a:=x % 4294967296) (b:=y / 4294967296) (by omega) (by omega)
 have ba':x / 4294967296*(y / 4294967296)<18446744073709551616:=by omega
 have bb':x / 4294967296*(y % 4294967296)<18446744073709551616:=by omega
 have bc':x % 4294967296*(y / 4294967296)<18446744073709551616:=by omega
 have bh1:x / 4294967296*(y / 4294967296)+(x / 4294967296*(y % 4294967296)+x % 4294967296*(y % 4294967296) / 4294967296) / 4294967296<18446744073709551616:=by omega
 have bh:x / 4294967296*(y / 4294967296)+(x / 4294967296*(y % 4294967296)+x % 4294967296*(y % 4294967296) / 4294967296) / 4294967296+((x / 4294967296*(y % 4294967296)+x % 4294967296*(y % 4294967296) / 4294967296) % 4294967296+x % 4294967296*(y / 4294967296)) / 4294967296<18446744073709551616:=by omega
 have HH:=Hd hhi;clear hhi;go_enter Tryz.func232,Tryz.ntmps232;go_wp2_with fail;simp only [Mul64.maskN x hx,Mul64.maskN y hy,Mul64.divN,Mul64.mulN,Mul64.addN,Mul64.wrapN _ bd,Mul64.wrapN _ bb',Mul64.wrapN _ bt,Mul64.maskN _ bt,Mul64.wrapN _ bc',Mul64.wrapN _ bw,Mul64.wrapN _ ba',Mul64.wrapN _ bh1,Mul64.wrapN _ bh,Mul64.wrapM (x*y)];rw [HH.out];go_ret2;exact ⟨rfl,rfl⟩
theorem mul_one (n:Nat) (hn:n<=10000) (w:World) :
  Calls Tryz.prog 222 #[.int .u64 1,.int .u64 n] w fun e w'=>e=.returned (.tuple #[.int .u64 0,.int .u64 n])/\w'=w:=by
 have c64:=Hd (mul64 1 n (by omega) (by omega) w)
 have e1:Hid (((1*n / 18446744073709551616:Nat):Int)=0/\((1*n % 18446744073709551616:Nat):Int)=n):=Hd (by omega)
 rw [e1.out.1,e1.out.2] at c64;clear e1;go_enter Tryz.func222,Tryz.ntmps222;go_wp2_with (go_at_call 232;refine c64.out.mono ?_;rintro e w' ⟨rfl,hw⟩;rw [hw]);go_ret2;exact ⟨rfl,rfl⟩
theorem make_intsR (M:Nat) (hM:M<=10000) (X:World):∃ X',(Instr.makeSlice 22 (.int .i64 M) (.int .i64 M)).run Tryz.prog X=.ok (.slice (some ⟨X.heap.size,0,none⟩) M M) X'/\Bk X' X.heap.size 3 (Ac (List.replicate M 0)).toArray/\Below X.heap.size X X':=by
 obtain ⟨k0,hk0,kz0,kz1,kz2⟩:=info_parts intInfo;obtain ⟨X',hr,ho,hg⟩:=run_make_full (P:=Tryz.prog) X X.heap.size 22 3 k0 _ 1 Tryz.underlying22 hk0 kz0 kz1 .i64 .i64 M (by rw [kz2];omega) (by unfold maxLen;omega) Le
 rw [made_ints] at ho;exact ⟨X',hr,own_full ho,⟨hg.os,hg.tape,hg.output,hg.size,fun k hk=>hg.block k hk (by simp)⟩⟩
def lenV:Value->Nat
 | .slice _ n _=>n
 | _=>0
def RepAt (w:World) (n:Nat) (v:Int) (k:Nat) (X:World):Prop :=
 Below w.heap.size w X/\Bk X w.heap.size 3 (Ac (List.replicate k v ++ List.replicate (n - k) 0)).toArray
theorem rep_seg {n k m:Nat} (hk:k+m<=n) (v:Int):(((Ac (List.replicate k v ++ List.replicate (n - k) 0)).toArray).toList.take k ++ Ac (List.replicate m v) ++ ((Ac (List.replicate k v ++ List.replicate (n - k) 0)).toArray).toList.drop (k+m)).toArray=(Ac (List.replicate (k+m) v ++ List.replicate (n - (k+m)) 0)).toArray:=by
 congr 1
 simp only [Ac,List.map_append,List.map_replicate];rw [List.take_append_of_le_length (by simp),List.take_of_length_le (l:=List.replicate k _) (by simp),List.drop_append,List.drop_of_length_le (l:=List.replicate k _) (by simp),List.nil_append,List.length_replicate,List.drop_replicate,List.replicate_append_replicate]
 congr 2
 omega
theorem below_setRowR {B:Nat} {a w:World} (h:Below B a w) {g:Nat} (hg:B<=g) (cs:Array Value):Below B a (w.setRow g cs) :=
 ⟨h.os,h.tape,h.output,by unfold World.setRow;simp;exact h.size,fun k hk=>by
  have e:(w.setRow g cs).heap[k]?=w.heap[k]?:=by
   unfold World.setRow;simp only [Array.getElem?_modify];rw [if_neg (by omega)]
  exact e.trans (h.block k hk)⟩
theorem ones_int (l:List Int):∀ u∈Ac l,u.oneCell'=true:=fun u hu=>by
 simp only [Ac,List.mem_map] at hu;obtain ⟨x,_,rfl⟩:=hu;rfl
theorem RepAt.copy {w X:World} {n k m:Nat} {v:Int} (h:RepAt w n v k X) (hkm:k+m<=n) {a:Addr} (hsrc:∀ j u,(Ac (List.replicate m v))[j]?=some u->X.cell? (a.add j)=some u) (dL dC sL sC:Nat) (hmin:m=Nat.min sL dL) :
  ∃ X',(Builtin.copy_ #[22,22] 3 #[.slice (some ⟨w.heap.size,k,none⟩) dL dC,.slice (some a) sL sC]).run Tryz.prog X=.ok (goInt m) X'/\RepAt w n v (k+m) X':=by
 have hr:=run_copy_row Tryz.prog X 22 22 3 3 w.heap.size k dL dC a sL sC _ 3 (Ac (List.replicate m v)) Tryz.underlying22 (by kernel_rfl) h.2 (by simpa [Ac] using hmin) hsrc (by simp [Ac];omega) (ones_int _)
 have hl:(Ac (List.replicate m v)).length=m:=by simp [Ac]
 rw [hl,rep_seg hkm] at hr;exact ⟨_,hr,below_setRowR h.1 Le _,setRow_heap X _ _ _ 3 (0,0) h.2⟩
theorem repeat_any (v:Int) (A:Option Addr) (c n:Nat) (w:World) (hA:Ad w A (Ac [v])) (h1:0<n) (h2:n<=10000) :
  Calls Tryz.prog 192 #[.slice A 1 c,.int .i64 n] w fun e w'=>Below w.heap.size w w'/\∃ g,w.heap.size<=g/\e=.returned (.slice (some ⟨g,0,none⟩) n n)/\Bk w' g 3 (Ac (List.replicate n v)).toArray:=by
 obtain ⟨b,off,rfl,hb,hc⟩:=hA (by simp [Ac])
 have HM:=Hd (mul_one n h2 w);have HMK:=Hd (make_intsR n h2 w);obtain ⟨w2,hrun,hgt,hb2⟩:=HMK.out;have H0:Hid (RepAt w n v 0 w2):=Hd ⟨hb2,by simpa using hgt⟩
 obtain ⟨w3,hcp,hr3⟩:=H0.out.copy (m:=1) (by omega) (a:=⟨b,off,none⟩) (fun j u hu=>by
  rw [De];exact (bcell hb2).1 b (off+j) hb |>.trans (hc j u (by simpa [Ac] using hu))) n n 1 c (by show 1=min 1 n;omega)
 have H1:=Hd hr3;have ew:IntKind.u64.wrap (n:Int)=n:=by rw [IntKind.wrap_u64];omega
 clear hA hc hgt hr3 HMK;go_enter Tryz.func192,Tryz.ntmps192;go_upto_region 6 with (go_at_call 222;refine HM.out.mono ?_;rintro e w1 ⟨rfl,hw⟩;rw [hw];clear hw)
 have ew2:IntKind.i64.wrap (n:Int)=n:=by rw [IntKind.wrap_i64];omega
 go_upto_region 7 with fail
 go_upto_region 8 with fail
 clear hrun hcp hb2 H0 HM ew ew2;go_loopw [8] (fun i wr=>∃ k:Nat,1<=k/\k<=n/\i=.int .i64 k/\Hid (RepAt w n v k wr)) (fun i _=>n - (intOf i).toNat)
 case atStart=>exact ⟨1,by omega,by omega,rfl,H1⟩
 case round =>
  clear H1;obtain ⟨k,hk1,hkn,rfl,HR⟩:=hrel
  by_cases hlt:k<n
  ·have hkI:(k:Int)<n:=by omega
   go_upto_region 9 with fail
   have hkn1:¬ n<k:=by omega
   have hkn2:¬ n=k:=by omega
   refine wp_region_extpre 1 7 (by kernel_rfl) (by kernel_rfl) (fun _ _ d _ _ h=>by cases d<;>exact h) ?_
   simp only [List.take_succ_cons,List.take_zero,List.drop_succ_cons,List.drop_zero];repeat (go_big_quiet_step (fail))
   refine wpQuiet_nil ?_;rintro _ ⟨yy,rfl⟩;have H4:RepAt w n v k yy.w:=⟨HR.out.1.trans (yy.bel.mono HR.out.1.size),HR.out.2.keep yy.bel⟩;obtain ⟨w4,hcp,hr4⟩:=H4.copy (m:=min k (n - k)) (by omega) (a:=⟨w.heap.size,0,none⟩) (fun j u hu=>by
    rw [De,H4.2.cell];have hj:j<min k (n - k):=by have:=(List.getElem?_eq_some_iff.1 hu).1;simpa [Ac] using this
    simp only [Ac,List.map_replicate,List.getElem?_replicate,hj,if_true] at hu;rw [Nat.zero_add,List.getElem?_toArray];simp only [Ac,List.map_append,List.map_replicate];rw [List.getElem?_append_left (by simp;omega),List.getElem?_replicate,if_pos (by omega)]
    exact hu) (n - k) (n - k) k n rfl
   have H5:=Hd hr4;obtain ⟨m,hm⟩:∃ m,min k (n - k)=m:=⟨_,rfl⟩;rw [hm] at hcp H5;have hm1:1<=m:=by omega
   have hm2:k+m<=n:=by omega
   clear H4 hr4 hm HR;generalize yy.w=w5 at *;go_wp2_with fail;go_roundw
   case rel=>exact ⟨k+m,by omega,hm2,by go_num,H5⟩
   case measure=>simp [intOf];omega
  ·obtain rfl:k=n:=by omega
   have HE:=Hd (show Bk wr w.heap.size 3 (Ac (List.replicate k v)).toArray from by have:=HR.out.2;simpa using this)
   go_wp2_with fail;go_ret;exact ⟨HR.out.1,w.heap.size,Nat.le_refl _,rfl,HE.out⟩
end
section
section
open Go.Shelf
def layRev_ren:Go.Shelf.Ren:=⟨fun | 35=>233 | n=>n,fun | 22=>208 | 23=>319 | 3=>3 | 4=>4 | 0=>0 | n=>n,fun | n=>n⟩
theorem layRev:Go.Proofs.SlLaysE0.n35 Tryz.prog layRev_ren:={
 mixed:=by kernel_rfl
 f35:=⟨Tryz.f233.name,by decide,Tryz.func233.trans (congrArg some (by kernel_rfl))⟩
 t0:=Tryz.underlying0
 a0:=Tryz.isAgg0
 z0:=Tryz.sizeOf0
 v0:=Tryz.zeroValue0
 t3:=Tryz.underlying3
 a3:=Tryz.isAgg3
 z3:=Tryz.sizeOf3
 v3:=Tryz.zeroValue3
 t4:=Tryz.underlying4
 a4:=Tryz.isAgg4
 z4:=Tryz.sizeOf4
 v4:=Tryz.zeroValue4
 t22:=Tryz.underlying208
 a22:=Tryz.isAgg208
 z22:=Tryz.sizeOf208
 v22:=Tryz.zeroValue208 }
end
open Go.RowKit Go.Sort
instance boundInhabited:Inhabited Ao:=⟨⟨(0,0),(0,0),0,0,0⟩⟩
theorem isAgg319 (w:World):(isAgg 319).run Tryz.prog w=.ok true w:=by kernel_rfl
theorem sizeOf319 (w:World):(Go.sizeOf 319).run Tryz.prog w=.ok 7 w:=by kernel_rfl
theorem grownBy_putK {α:Type} [Inhabited α] {w:World} {g n:Nat} (enc:α->List Value) (k:Nat) (d:Array α):w.grownBy (putRowK enc k (Sort.ahead w n) g 0 d) (some g):=by
 unfold putRowK;refine ⟨rfl,rfl,rfl,by simp [putRow,mapBlock,Sort.ahead],fun j hj hne=>?_⟩
 have:g≠j:=fun e=>hne (by rw [e])
 simp [putRow,mapBlock,Sort.ahead,Array.getElem?_modify,this]
theorem reverse_any (L:List Ao) (g c base:Nat) (w:World) (ho:w.ownsRow base 319 7 (.slice (some ⟨g,0,none⟩) L.length c) L.length (Cz L)) (hl:L.length<=65536) :
  Calls Tryz.prog 233 #[.slice (some ⟨g,0,none⟩) L.length c] w fun e w'=>e=.returned (.tuple #[])/\w.grownBy w' (some g):=by
 have h:=AnyQ.slices_Reverse layRev 7 isAgg319 sizeOf319 Ao.cells (fun _=>rfl) (fun x v hv=>by
  simp only [Ao.cells,List.mem_cons,List.not_mem_nil,or_false] at hv;rcases hv with rfl | rfl | rfl | rfl | rfl | rfl | rfl<;>rfl) g 0 c L.toArray w (holdsK_of_own Ao.cells (fun _=>rfl) ho) (by simp;omega)
 refine (show Calls Tryz.prog 233 #[.slice (some ⟨g,0,none⟩) L.length c] w (fun e w'=>e=.returned (.tuple #[])/\∃ n,w'=putRowK Ao.cells 7 (Sort.ahead w n) g 0 L.toArray.reverse) from h).mono ?_
 rintro e w' ⟨rfl,n,rfl⟩;exact ⟨rfl,grownBy_putK _ _ _⟩
theorem forward_any (r:Nat) (L:List Ao) (g c base:Nat) (turned:Bool) (w:World) (hr:w.cell? ⟨r,4,none⟩=some (.bool turned)) (ho:w.ownsRow base 319 7 (.slice (some ⟨g,0,none⟩) L.length c) L.length (Cz L)) (hl:L.length<=65536) :
  Calls Tryz.prog 223 #[.pointer (some ⟨r,0,none⟩),.slice (some ⟨g,0,none⟩) L.length c] w fun e w'=>e=.returned (.slice (some ⟨g,0,none⟩) L.length c)/\w.grownBy w' (some g):=by
 have H:=Hd (reverse_any L g c base w ho hl);clear ho;cases turned with
 | true =>
  go_enter Tryz.func223,Tryz.ntmps223;go_wp2_with fail;go_ret;exact ⟨rfl,World.grownBy_refl _ _⟩
 | false =>
  go_enter Tryz.func223,Tryz.ntmps223;go_wp2_with (go_at_call 233;refine H.out.mono ?_;rintro e w1 ⟨rfl,hg1⟩);go_ret;exact ⟨rfl,hg1⟩
structure CycI (r n:Nat) (u:BF.St) (es:List BF.Ed) (L:List Ao) (turned:Bool) (m:Value) (dA:Option Addr) (a:Nat) (B:Option Addr) (b:Nat) (LA:Option Addr) (l:Nat) (T:Option Addr) (w:World):Prop where
 bk:Bk w r 329 #[m,.slice dA n a,.slice B n b,.slice LA L.length l,.bool turned]
 by_:Ad w B (Ac u.p)
 lr:Ad w LA (Cz L)
 tr:Ad w T (Ac (es.map fun e=>(e.a:Int)))
theorem CycI.below {r n:Nat} {u:BF.St} {es:List BF.Ed} {L:List Ao} {turned:Bool} {m:Value} {dA:Option Addr} {a:Nat} {B:Option Addr} {b:Nat} {LA:Option Addr} {l:Nat} {T:Option Addr} {w w':World} (h:CycI r n u es L turned m dA a B b LA l T w) (hb:Below w.heap.size w w'):CycI r n u es L turned m dA a B b LA l T w' :=
 ⟨h.bk.keep hb,h.by_.below hb,h.lr.below hb,h.tr.below hb⟩
theorem back_step {es:List BF.Ed} {s n:Nat} {far:Int} {u:BF.St} (hi:BF.Inv es s n far u) {v:Nat} (hb:∀ j,BF.back es u v j<n/\u.p.getD (BF.back es u v j) 0 ≠ -1) (j:Nat):∃ i:Nat,i<es.length/\u.p.getD (BF.back es u v j) 0=i/\(es.map fun e=>(e.a:Int)).getD i 0=(BF.back es u v (j+1):Nat):=by
 obtain ⟨i,h1,h2,h3⟩:=par_of hi (hb j).1 (hb j).2;refine ⟨i,h1,h2,?_⟩
 show _=((BF.par es u (BF.back es u v j):Nat):Int)
 rw [h3,List.getD_eq_getElem?_getD,List.getElem?_map,List.getD_eq_getElem?_getD,List.getElem?_eq_getElem h1];rfl
def CycP (w:World) (e:Ending) (w':World):Prop:=Below w.heap.size w w'/\∃ (g n c:Nat),1<=n/\e=.returned (.slice (some ⟨g,0,none⟩) n c)
theorem cycle_any (r n v s:Nat) (far:Int) (u:BF.St) (es:List BF.Ed) (L:List Ao) (turned:Bool) (m:Value) (dA:Option Addr) (a:Nat) (B:Option Addr) (b:Nat) (LA:Option Addr) (l:Nat) (T:Option Addr) (c:Nat) (w:World)
  (hI:CycI r n u es L turned m dA a B b LA l T w) (hi:BF.Inv es s n far u) (hl:es.length=L.length) (hL:L.length<=65536) (hn:n<=65536)
  (hb:∀ j,BF.back es u v j<n/\u.p.getD (BF.back es u v j) 0 ≠ -1) (hp:∃ p,1<=p/\p<=n/\BF.back es u v (n+1+p)=BF.back es u v (n+1)) :
  Calls Tryz.prog 194 #[.pointer (some ⟨r,0,none⟩),.int .i64 v,.slice T es.length c] w (CycP w):=by
 obtain ⟨p,hp1,hp2,hp3⟩:=hp;have HP:=Hd hp3;have HS:=Hd (back_step hi hb);have HB:=Hd hb;have HPL:=Hd hi.pl;have HI:=Hd (fun (X:World) (h:Below w.heap.size w X)=>hI.below h)
 have hp0:0<u.p.length:=by rw [hi.pl];have:=(hb 0).1;omega
 have he0:0<es.length:=by obtain ⟨i,h1,_⟩:=back_step hi hb 0;omega
 obtain ⟨bB,oB,hBA,hbB,hcB⟩:=Jb hI.by_ hp0;obtain ⟨bT,oT,hTA,hbT,hcT⟩:=Jb hI.tr (by simpa using he0)
 subst hBA hTA;have r1:=hI.bk.cell 1;have r2:=hI.bk.cell 2;have rl:=hI.bk.lt;simp at r1 r2;have HC:=Hd (Ai hcB hcT);have HLE:=Hd hl;clear hcB hcT hp3 hb hi hI hl;go_enter Tryz.func194,Tryz.ntmps194;go_upto_region 2 with fail
 clear r1;go_loopw [1,15] (fun x i wr=>∃ k:Nat,k<=n+1/\i=.int .i64 k/\x=.int .i64 (BF.back es u v k:Nat)/\w=wr) (fun _ i _=>n+1 - (intOf i).toNat)
 case atStart=>exact ⟨0,by omega,rfl,rfl,rfl⟩
 case round =>
  obtain ⟨k,hk,rfl,rfl,rfl⟩:=hrel
  by_cases hlt:k<n+1
  ·have hkI:(k:Int)<(n:Int)+1:=by omega
   obtain ⟨i,hi1,hi2,hi3⟩:=HS.out k;have hx:=(HB.out k).1;have c0:=HC.out.1 (BF.back es u v k) (by rw [HPL.out];exact hx)
   have c1:=HC.out.2 i (by simpa using hi1)
   rw [hi2] at c0;rw [hi3] at c1;have hkn:((BF.back es u v k:Nat):Int)<n:=by omega
   have hin:(i:Int)<es.length:=by omega
   clear hi2 hi3;generalize hy:BF.back es u v (k + 1)=y at *;have HY:=Hd hy;clear hy;generalize BF.back es u v k=x at *;go_wp2_with fail;exact ⟨⟨k+1,by omega,by go_num,by rw [HY.out],trivial⟩,by simp [intOf];omega⟩
  ·obtain rfl:k=n+1:=by omega
   generalize hf:BF.back es u v (n + 1)=f at *;have HFF:=Hd hf;clear hf;rw [show ((n+1:Nat):Int)=(n:Int)+1 by simp]
   go_upto_region 7 with fail
   go_loopw [1,7] (fun x o wr=>∃ j:Nat,j<=p/\x=.int .i64 (BF.back es u v (n+1+j):Nat)/\∃ (A:Option Addr) (cc:Nat) (xs:List Ao),o=.slice A j cc/\Hid (xs.length=j/\Below w.heap.size w wr/\wr.ownsRow w.heap.size 319 7 (.slice A j cc) j (Cz xs))) (fun _ o _=>p - lenV o)
   case atStart=>exact ⟨0,by omega,by rw [<- HFF.out],none,0,[],rfl,Hd ⟨rfl,Below.refl _ _,World.ownsRow_nil _ _ _ _⟩⟩
   case round =>
    clear r2;obtain ⟨j,hj,rfl,A,cc,xs,rfl,HO⟩:=hrel
    by_cases hx:j=0\/BF.back es u v (n+1+j)≠f
    ·have hjp:j<p:=by
      rcases Nat.lt_or_ge j p with h | h
      ·exact h
      ·obtain rfl:j=p:=by omega
       rcases hx with h0 | h0
       ·omega
       ·exact absurd HP.out h0
     obtain ⟨i,hi1,hi2,hi3⟩:=HS.out (n+1+j);have hxn:=(HB.out (n+1+j)).1;have HIw:=Hd (HI.out _ HO.out.2.1);obtain ⟨b7,o7,hA7,hb7,hc7⟩:=row7 HIw.out.lr (by have:=HLE.out;omega)
     have d0:=hc7 i (by have:=HLE.out;omega) 0 _ rfl
     have d1:=hc7 i (by have:=HLE.out;omega) 1 _ rfl
     have d2:=hc7 i (by have:=HLE.out;omega) 2 _ rfl
     have d3:=hc7 i (by have:=HLE.out;omega) 3 _ rfl
     have d4:=hc7 i (by have:=HLE.out;omega) 4 _ rfl
     have d5:=hc7 i (by have:=HLE.out;omega) 5 _ rfl
     have d6:=hc7 i (by have:=HLE.out;omega) 6 _ rfl
     have c0:=HC.out.1 (BF.back es u v (n+1+j)) (by rw [HPL.out];exact hxn)
     have c1:=HC.out.2 i (by simpa using hi1)
     rw [hi2] at c0;rw [hi3] at c1;have HCC:=Hd (Ai c0 c1);have c0:=Ag HO.out.2.1 c0;clear c1;have r2:=HIw.out.bk.cell 2;have r3:=HIw.out.bk.cell 3;have rl:=HIw.out.bk.lt;subst hA7;simp only [Nat.add_zero] at d0;simp at r2 r3;generalize hxb:L[i]'(by have:=HLE.out;omega)=xb at *
     clear hxb hc7;have hcnd:((j:Int) == 0)=true\/(((j:Int) == 0)=false/\(((BF.back es u v (n+1+j):Nat):Int) == (f:Int))=false):=by
      rcases hx with h | h
      ·left;simp [h]
      ·by_cases h0:j=0
       ·left;simp [h0]
       ·right;exact ⟨by simp;omega,by simp;omega⟩
     have hkn:((BF.back es u v (n+1+j):Nat):Int)<n:=by omega
     have hin:(i:Int)<es.length:=by omega
     have hinL:(i:Int)<L.length:=by have:=HLE.out;omega
     clear hi2 hi3 hx hi1;generalize hy:BF.back es u v (n + 1 + j + 1)=y at *;have HYY:=Hd hy;clear hy;generalize BF.back es u v (n + 1 + j)=x at *;obtain ⟨i0,hi0,hz0,hz1,hz2⟩:=info_parts info319;rcases hcnd with hj0 | ⟨hj0,hxy⟩
     all_goals
      go_upto_region 9 with fail
      have Kr2:=fun x:Ext wr=>Ag x.bel r2
      have Kr3:=fun x:Ext wr=>Ag x.bel r3
      have Kc0:=fun x:Ext wr=>Ag x.bel c0
      have Kd0:=fun x:Ext wr=>Ag x.bel d0
      have Kd1:=fun x:Ext wr=>Ag x.bel d1
      have Kd2:=fun x:Ext wr=>Ag x.bel d2
      have Kd3:=fun x:Ext wr=>Ag x.bel d3
      have Kd4:=fun x:Ext wr=>Ag x.bel d4
      have Kd5:=fun x:Ext wr=>Ag x.bel d5
      have Kd6:=fun x:Ext wr=>Ag x.bel d6
      clear r2 r3 c0 d0 d1 d2 d3 d4 d5 d6;refine Gy 0 1 14 _ (by kernel_rfl) (by kernel_rfl) rfl (fun _ _ d _ _ h=>by cases d<;>exact h) ?_
      simp only [List.take_succ_cons,List.take_zero,List.drop_succ_cons,List.drop_zero];repeat (go_big_quiet_step (fail))
      refine wpQuiet_nil ?_;refine ⟨rfl,?_⟩;rintro _ ⟨y6,rfl⟩;have hBx:RowKit.Below wr.heap.size wr (y6.w.alloc (.cells #[.int .i64 xb.fr.1,.int .i64 xb.fr.2,.int .i64 xb.dst.1,.int .i64 xb.dst.2,.int .i64 xb.most,.int .i64 xb.kind,.int .i64 xb.id] 319)):=y6.bel.alloc y6.bel.size _;refine ⟨.slice (some ⟨y6.w.heap.size,0,none⟩) 1 1,y6.w.alloc (.cells #[.int .i64 xb.fr.1,.int .i64 xb.fr.2,.int .i64 xb.dst.1,.int .i64 xb.dst.2,.int .i64 xb.most,.int .i64 xb.kind,.int .i64 xb.id] 319),by kernel_rfl,⟨⟨_,hBx⟩,rfl⟩,?_⟩
      clear Kr2 Kr3 Kc0 Kd0 Kd1 Kd2 Kd3 Kd4 Kd5 Kd6;refine wpList_append_own _ rfl _ _ 208 rfl w.heap.size 319 i0 _ 7 56 Tryz.underlying208 hi0 hz0 hz1 hz2 rfl (by decide) (.slice A j cc) j (Cz xs) rfl (Ca HO.out.2.2 hBx) ⟨y6.w.heap.size,0,none⟩ 1 1 [.int .i64 xb.fr.1,.int .i64 xb.fr.2,.int .i64 xb.dst.1,.int .i64 xb.dst.2,.int .i64 xb.most,.int .i64 xb.kind,.int .i64 xb.id] rfl rfl (Gb (Aa rfl)) (by simp [Value.oneCell']) (by unfold maxLen;omega) (by omega) (by have:=HO.out.2.1.size;have:=hBx.size;omega) ?_
      intro v6 w6 hown6 hg7 _;obtain ⟨A6,c6,rfl,_,_,_⟩:=Au hown6;have hB6:RowKit.Below w.heap.size w w6:=(HO.out.2.1.trans (hBx.mono HO.out.2.1.size)).grown hg7 (Nat.le_trans HO.out.2.1.size hBx.size) (fun r e=>(HO.out.2.2.lt r e).1)
      have HO6:Hid ((xs ++ [xb]).length=j+1/\RowKit.Below w.heap.size w w6/\w6.ownsRow w.heap.size 319 7 (.slice A6 (j+1) c6) (j+1) (Cz (xs ++ [xb]))):=Hd ⟨by simp [HO.out.1],hB6,by rw [show Cz (xs ++ [xb])=Cz xs ++ xb.cells by simp [Cz]];exact hown6⟩
      have HI6:=Hd (HI.out w6 hB6);have HCK:=Hd hB6;clear hown6 hg7 hBx hB6 hi0 hz0 hz1 hz2;have r2:=HI6.out.bk.cell 2;have rl:=HI6.out.bk.lt;simp at r2;have c0:=Ag HO6.out.2.1 HCC.out.1;have c1:=Ag HO6.out.2.1 HCC.out.2;clear HI6 HCC HIw HCK;go_wp2_with fail;go_roundw
      case rel=>exact ⟨j+1,by omega,by rw [<- HYY.out];rfl,A6,c6,xs ++ [xb],rfl,HO6⟩
      case measure=>simp [lenV];omega
    ·have hj0:0<j:=by omega
     have hxf:BF.back es u v (n+1+j)=f:=by
      rcases Nat.decEq (BF.back es u v (n+1+j)) f with h | h
      ·exact absurd (.inr h) hx
      ·exact h
     have hj1:((j:Int) == 0)=false:=by simp;omega
     rw [hxf];have HIw:=Hd (HI.out _ HO.out.2.1);have hb2:=HO.out.2.1.size;obtain ⟨g,cap,cur,hA,hgb,-,-⟩:=own_some HO.out.2.2 hj0;simp only [Value.slice.injEq] at hA;obtain ⟨rfl,-,rfl⟩:=hA;obtain rfl:=HO.out.1;have HF:=Hd (forward_any r xs g cc w.heap.size turned wr ((HIw.out.bk.cell 4).trans rfl) HO.out.2.2 (by omega))
     have HE:=Hd (fun (V:World) (h:wr.grownBy V (some g))=>(show CycP w (.returned (.slice (some ⟨g,0,none⟩) xs.length cc)) V from ⟨HO.out.2.1.grown h HO.out.2.1.size (fun r e=>by injection e with e;omega),g,xs.length,cc,hj0,rfl⟩))
     clear hxf hx HIw HO;go_wp2_with (go_at_call 223;refine HF.out.mono ?_;rintro e w7 ⟨rfl,hg7⟩);go_ret;exact HE.out _ hg7
end
end Go.Proofs.YteihcodicfoiaaaGreat
