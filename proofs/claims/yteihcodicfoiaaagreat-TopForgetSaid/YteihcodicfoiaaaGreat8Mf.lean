/-
  What is proved: contracts and plain facts that TopForget stands on (Graded, Crew, Clones, Entries, Idx).
-/
import Derived.Test.YteihcodicfoiaaaGreat2Mf
import Derived.Test.YteihcodicfoiaaaGreatGRatioMf
namespace Go.Proofs.YteihcodicfoiaaaGreat
set_option maxRecDepth 100000
set_option maxHeartbeats 8000000
open Go Go.RowKit
section
theorem all_bad {n k:Nat} {bad:Nat->Bool} (hk:k<n) (h:bad k=true):(List.range n).all (fun k=>!bad k)=false:=by
 rw [List.all_eq_false];exact ⟨k,List.mem_range.2 hk,by simp [h]⟩
theorem all_good {n:Nat} {bad:Nat->Bool} (h:∀ k,k<n->bad k=false):(List.range n).all (fun k=>!bad k)=true:=by
 rw [List.all_eq_true];exact fun k hk=>by rw [h k (List.mem_range.1 hk)];rfl
theorem Fq {k:Nat} {bad:Nat->Bool} (h:∀ j,j<k->bad j=false) (hk:bad k=false):∀ j,j<k+1->bad j=false:=fun j hj=>by
 rcases Nat.lt_or_ge j k with g | g
 ·exact h j g
 ·obtain rfl:j=k:=by omega
  exact hk
def gBad (l:List Int) (k:Nat):Bool:=(decide (k=0) && decide (l.getD k 0≠0)) || (decide (0<k) && decide (l.getD k 0<=l.getD (k - 1) 0)) || decide (64<l.getD k 0)
def gradedB (l:List Int):Bool:=(List.range l.length).all (fun k=>!gBad l k) && inB l.length 1 8
theorem graded_any (A:Option Addr) (c:Nat) (l:List Int) (w:World) (hL:Ad w A (Ac l)) (hn:l.length<=100) :
  Calls Tryz.prog 64 #[.slice A l.length c] w fun e w'=>e=.returned (.bool (gradedB l))/\w'=w:=by
 have HL:=Hd hL;clear hL;go_enter Tryz.func64,Tryz.ntmps64;go_wp2_with fail;go_loopw [7] (fun i wr=>w=wr/\∃ k:Nat,k<=l.length/\i=.int .i64 k/\Hid (∀ j,j<k->gBad l j=false)) (fun i _=>l.length - (intOf i).toNat)
 case atStart=>exact ⟨rfl,0,Nat.zero_le _,rfl,fun j h=>absurd h (by omega)⟩
 case round =>
  obtain ⟨rfl,k,hk,rfl,hall⟩:=hrel
  by_cases hlt:k<l.length
  ·have hkI:(k:Int)<l.length:=by omega
   obtain ⟨b,off,hA,hb,hc⟩:=Jb HL.out (by omega)
   have c0:=hc k hlt;have HG:Hid (gBad l k=true->gradedB l=false):=fun h=>by unfold gradedB;rw [all_bad hlt h];rfl
   have HN:Hid (gBad l k=false->∀ j,j<k+1->gBad l j=false):=fun h=>Fq hall.out h
   have HV:Hid (gBad l k=((decide (k=0) && decide (l.getD k 0≠0)) || (decide (0<k) && decide (l.getD k 0<=l.getD (k - 1) 0)) || decide (64<l.getD k 0))):=rfl
   clear hall
   by_cases hk0:0<k
   ·have hk0I:(k:Int) > 0:=by omega
    have hkn:¬ (k:Int)=0:=by omega
    have c1:=hc (k - 1) (by omega)
    have e1:(k:Int) - 1=((k - 1:Nat):Int):=by omega
    have hm1:((k - 1:Nat):Int)<l.length:=by omega
    have ew:=IntWalk.i64_in (((k - 1:Nat):Int)) (by omega)
    rw [hA];clear hA hc;generalize l.getD k 0=x at *;generalize l.getD (k - 1) 0=y at *;generalize k - 1=k1 at *
    by_cases hxy:x<=y
    ·have HQ:=Hd (HG.out (by rw [HV.out];simp;omega))
     go_wp2_with fail;go_ret;exact ⟨Af HQ.out.symm,rfl⟩
    ·by_cases hx:x > 64
     ·have HQ:=Hd (HG.out (by rw [HV.out];simp;omega))
      go_wp2_with fail;go_ret;exact ⟨Af HQ.out.symm,rfl⟩
     ·have HQ:=Hd (HN.out (by rw [HV.out];simp;omega))
      go_wp2_with fail;go_roundw
      case rel=>exact ⟨trivial,k+1,by omega,by go_num,HQ⟩
      case measure=>simp [intOf];omega
   ·obtain rfl:k=0:=by omega
    rw [hA];clear hA hc;simp only [Nat.add_zero] at c0;generalize l.getD 0 0=x at *
    by_cases hx:x=0
    ·subst hx;have HQ:=Hd (HN.out (by rw [HV.out];simp))
     go_wp2_with fail;go_roundw
     case rel=>exact ⟨trivial,1,by omega,by go_num,HQ⟩
     case measure=>simp [intOf];omega
    ·have HQ:=Hd (HG.out (by rw [HV.out];simp;omega))
     go_wp2_with fail;go_ret;exact ⟨Af HQ.out.symm,rfl⟩
  ·obtain rfl:k=l.length:=by omega
   have HQ:Hid (gradedB l=inB l.length 1 8):=by refine Hd ?_;unfold gradedB;rw [all_good hall.out];rfl
   go_wp2_with (go_at_call 36;refine (Bm _ _ _ _).mono ?_;rintro e w1 ⟨rfl,rfl⟩);go_ret;exact ⟨Af HQ.out.symm,rfl⟩
end
section
theorem Hj (n lo hi:Int) (w:World) :
  Calls Tryz.prog 153 #[.int .i64 n,.int .i64 lo,.int .i64 hi] w fun e w'=>e=.returned (.bool (inB n lo hi))/\w=w':=by
 by_cases h1:n>=lo
 ·by_cases h2:n<=hi
  ·go_enter Tryz.func153,Tryz.ntmps153;go_wp2_with fail;go_ret;exact ⟨Af (by simp [inB];omega),rfl⟩
  ·go_enter Tryz.func153,Tryz.ntmps153;go_wp2_with fail;go_ret;exact ⟨Af (by simp [inB];omega),rfl⟩
 ·go_enter Tryz.func153,Tryz.ntmps153;go_wp2_with fail;go_ret;exact ⟨Af (by simp [inB];omega),rfl⟩
def rBad (l:List Int) (most:Int) (k:Nat):Bool:=!inB (l.getD k 0) 0 most || (decide (0<k) && decide (l.getD k 0<=l.getD (k - 1) 0))
def risingB (l:List Int) (most:Int):Bool:=(List.range l.length).all (fun k=>!rBad l most k)
theorem rising_any (A:Option Addr) (c:Nat) (l:List Int) (most:Int) (w:World) (hL:Ad w A (Ac l)) (hn:l.length<=100) :
  Calls Tryz.prog 154 #[.slice A l.length c,.int .i64 most] w fun e w'=>e=.returned (.bool (risingB l most))/\w'=w:=by
 have HL:=Hd hL;clear hL;go_enter Tryz.func154,Tryz.ntmps154;go_wp2_with fail;go_loopw [9] (fun i wr=>w=wr/\∃ k:Nat,k<=l.length/\i=.int .i64 k/\Hid (∀ j,j<k->rBad l most j=false)) (fun i _=>l.length - (intOf i).toNat)
 case atStart=>exact ⟨rfl,0,Nat.zero_le _,rfl,fun j h=>absurd h (by omega)⟩
 case round =>
  obtain ⟨rfl,k,hk,rfl,hall⟩:=hrel
  by_cases hlt:k<l.length
  ·have hkI:(k:Int)<l.length:=by omega
   obtain ⟨b,off,hA,hb,hc⟩:=Jb HL.out (by omega)
   have c0:=hc k hlt;have HG:Hid (rBad l most k=true->risingB l most=false):=fun h=>by unfold risingB;exact all_bad hlt h
   have HN:Hid (rBad l most k=false->∀ j,j<k+1->rBad l most j=false):=fun h=>Fq hall.out h
   have HV:Hid (rBad l most k=(!inB (l.getD k 0) 0 most || (decide (0<k) && decide (l.getD k 0<=l.getD (k - 1) 0)))):=rfl
   clear hall;cases h1:inB (l.getD k 0) 0 most with
   | false =>
    rw [hA];clear hA hc;generalize l.getD k 0=x at *;have HQ:=Hd (HG.out (by rw [HV.out,h1];simp))
    go_wp2_with (go_at_call 153;refine (Hj _ _ _ _).mono ?_;rintro e w1 ⟨rfl,rfl⟩;rw [h1]);go_ret;exact ⟨Af HQ.out.symm,rfl⟩
   | true =>
    by_cases hk0:0<k
    ·have hk0I:(k:Int) > 0:=by omega
     have c1:=hc (k - 1) (by omega)
     have e1:(k:Int) - 1=((k - 1:Nat):Int):=by omega
     have hm1:((k - 1:Nat):Int)<l.length:=by omega
     have ew:=IntWalk.i64_in (((k - 1:Nat):Int)) (by omega)
     rw [hA];clear hA hc;generalize l.getD k 0=x at *;generalize l.getD (k - 1) 0=y at *;generalize k - 1=k1 at *
     by_cases hxy:x<=y
     ·have HQ:=Hd (HG.out (by rw [HV.out,h1];simp;omega))
      go_wp2_with (go_at_call 153;refine (Hj _ _ _ _).mono ?_;rintro e w1 ⟨rfl,rfl⟩;rw [h1]);go_ret;exact ⟨Af HQ.out.symm,rfl⟩
     ·have HQ:=Hd (HN.out (by rw [HV.out,h1];simp;omega))
      go_wp2_with (go_at_call 153;refine (Hj _ _ _ _).mono ?_;rintro e w1 ⟨rfl,rfl⟩;rw [h1]);go_roundw
      case rel=>exact ⟨trivial,k+1,by omega,by go_num,HQ⟩
      case measure=>simp [intOf];omega
    ·obtain rfl:k=0:=by omega
     rw [hA];clear hA hc;simp only [Nat.add_zero] at c0;generalize l.getD 0 0=x at *;have HQ:=Hd (HN.out (by rw [HV.out,h1];simp))
     go_wp2_with (go_at_call 153;refine (Hj _ _ _ _).mono ?_;rintro e w1 ⟨rfl,rfl⟩;rw [h1]);go_roundw
     case rel=>exact ⟨trivial,1,by omega,by go_num,HQ⟩
     case measure=>simp [intOf];omega
  ·obtain rfl:k=l.length:=by omega
   have HQ:Hid (risingB l most=true):=by refine Hd ?_;unfold risingB;exact all_good hall.out
   go_wp2_with fail;go_ret;exact ⟨Af HQ.out.symm,rfl⟩
end
section
theorem info_ints:(Tryz.prog.info? 3).map (fun i=>(i.zero,i.size,i.bytes))=some (some (.int .i64 0),1,8):=by kernel_rfl
theorem clone_ints_some (b off c n:Nat) (xs:List Value) (w:World) (hn:n<=65536) (hl:xs.length=n*1) (h1:Fo xs) (hx:RowB w b off xs) :
  Calls Tryz.prog 111 #[.slice (some ⟨b,off,none⟩) n c] w fun e w'=>∃ v,e=.returned v/\w'.ownsRow w.heap.size 3 1 v n xs/\Below w.heap.size w w':=by
 obtain ⟨i0,hi0,hz0,hz1,hz2⟩:=info_parts info_ints;have hnil:=fun (W:World)=>Lib.run_eql_slice_nil (P:=Tryz.prog) W 22 3 (some ⟨b,off,none⟩) n c 0 0 Tryz.underlying22
 have hx1:=(hx.alloc (Obj.cells #[] 3)).add;have e1:0+n<=maxLen:=by unfold maxLen;omega
 have e2:(0+n)*8<=140737488355328:=by omega
 have e3:w.heap.size<=(w.alloc (Obj.cells #[] 3)).heap.size:=by simp
 have E:=Hd (Ai hx1 (Ai h1 (Ai e1 (Ai e2 e3))));clear hx1 h1 e1 e2 e3 hx;go_enter Tryz.func111,Tryz.ntmps111;go_wp2_with (at_builtin;refine wpList_append_own _ rfl _ _ 22 rfl w.heap.size 3 i0 _ 1 8 Tryz.underlying22 hi0 hz0 hz1 hz2 rfl (by decide) _ _ _ rfl (World.ownsRow_made w #[] 0 Le (Nat.zero_le _) rfl) ⟨b,off,none⟩ n c xs rfl hl E.out.1 E.out.2.1 E.out.2.2.1 E.out.2.2.2.1 E.out.2.2.2.2 ?_;intro v w1 hown hg _)
 go_ret;refine ⟨v,rfl,by simpa using hown,((Below.refl _ _).alloc Le (.cells #[] 3)).grown hg (by simp) ?_⟩
 intro k hk;have:w.heap.size=k:=by injection hk
 omega
theorem info_points:(Tryz.prog.info? 152).map (fun i=>(i.zero,i.size,i.bytes))=some (some (.agg #[.int .i64 0,.int .i64 0]),2,16):=by kernel_rfl
theorem clone_points_some (b off c n:Nat) (xs:List Value) (w:World) (hn:n<=65536) (hl:xs.length=n*2) (h1:Fo xs) (hx:RowB w b off xs) :
  Calls Tryz.prog 112 #[.slice (some ⟨b,off,none⟩) n c] w fun e w'=>∃ v,e=.returned v/\w'.ownsRow w.heap.size 152 2 v n xs/\Below w.heap.size w w':=by
 obtain ⟨i0,hi0,hz0,hz1,hz2⟩:=info_parts info_points;have hnil:=fun (W:World)=>Lib.run_eql_slice_nil (P:=Tryz.prog) W 35 152 (some ⟨b,off,none⟩) n c 0 0 Tryz.underlying35
 have hx1:=(hx.alloc (Obj.cells #[] 152)).add;have e1:0+n<=maxLen:=by unfold maxLen;omega
 have e2:(0+n)*16<=140737488355328:=by omega
 have e3:w.heap.size<=(w.alloc (Obj.cells #[] 152)).heap.size:=by simp
 have E:=Hd (Ai hx1 (Ai h1 (Ai e1 (Ai e2 e3))));clear hx1 h1 e1 e2 e3 hx;go_enter Tryz.func112,Tryz.ntmps112;go_wp2_with (at_builtin;refine wpList_append_own _ rfl _ _ 35 rfl w.heap.size 152 i0 _ 2 16 Tryz.underlying35 hi0 hz0 hz1 hz2 rfl (by decide) _ _ _ rfl (World.ownsRow_made w #[] 0 Le (Nat.zero_le _) rfl) ⟨b,off,none⟩ n c xs rfl hl E.out.1 E.out.2.1 E.out.2.2.1 E.out.2.2.2.1 E.out.2.2.2.2 ?_;intro v w1 hown hg _)
 go_ret;refine ⟨v,rfl,by simpa using hown,((Below.refl _ _).alloc Le (.cells #[] 152)).grown hg (by simp) ?_⟩
 intro k hk;have:w.heap.size=k:=by injection hk
 omega
theorem info_pockets:(Tryz.prog.info? 154).map (fun i=>(i.zero,i.size,i.bytes))=some (some (.agg #[.int .i64 0,.int .i64 0,.int .i64 0]),3,24):=by kernel_rfl
theorem clone_pockets_some (b off c n:Nat) (xs:List Value) (w:World) (hn:n<=65536) (hl:xs.length=n*3) (h1:Fo xs) (hx:RowB w b off xs) :
  Calls Tryz.prog 113 #[.slice (some ⟨b,off,none⟩) n c] w fun e w'=>∃ v,e=.returned v/\w'.ownsRow w.heap.size 154 3 v n xs/\Below w.heap.size w w':=by
 obtain ⟨i0,hi0,hz0,hz1,hz2⟩:=info_parts info_pockets;have hnil:=fun (W:World)=>Lib.run_eql_slice_nil (P:=Tryz.prog) W 36 154 (some ⟨b,off,none⟩) n c 0 0 Tryz.underlying36
 have hx1:=(hx.alloc (Obj.cells #[] 154)).add;have e1:0+n<=maxLen:=by unfold maxLen;omega
 have e2:(0+n)*24<=140737488355328:=by omega
 have e3:w.heap.size<=(w.alloc (Obj.cells #[] 154)).heap.size:=by simp
 have E:=Hd (Ai hx1 (Ai h1 (Ai e1 (Ai e2 e3))));clear hx1 h1 e1 e2 e3 hx;go_enter Tryz.func113,Tryz.ntmps113;go_wp2_with (at_builtin;refine wpList_append_own _ rfl _ _ 36 rfl w.heap.size 154 i0 _ 3 24 Tryz.underlying36 hi0 hz0 hz1 hz2 rfl (by decide) _ _ _ rfl (World.ownsRow_made w #[] 0 Le (Nat.zero_le _) rfl) ⟨b,off,none⟩ n c xs rfl hl E.out.1 E.out.2.1 E.out.2.2.1 E.out.2.2.2.1 E.out.2.2.2.2 ?_;intro v w1 hown hg _)
 go_ret;refine ⟨v,rfl,by simpa using hown,((Below.refl _ _).alloc Le (.cells #[] 154)).grown hg (by simp) ?_⟩
 intro k hk;have:w.heap.size=k:=by injection hk
 omega
theorem info_spans:(Tryz.prog.info? 29).map (fun i=>(i.zero,i.size,i.bytes))=some (some (.agg #[.int .i64 0,.int .i64 0]),2,16):=by kernel_rfl
theorem clone_spans_some (b off c n:Nat) (xs:List Value) (w:World) (hn:n<=65536) (hl:xs.length=n*2) (h1:Fo xs) (hx:RowB w b off xs) :
  Calls Tryz.prog 37 #[.slice (some ⟨b,off,none⟩) n c] w fun e w'=>∃ v,e=.returned v/\w'.ownsRow w.heap.size 29 2 v n xs/\Below w.heap.size w w':=by
 obtain ⟨i0,hi0,hz0,hz1,hz2⟩:=info_parts info_spans;have hnil:=fun (W:World)=>Lib.run_eql_slice_nil (P:=Tryz.prog) W 30 29 (some ⟨b,off,none⟩) n c 0 0 Tryz.underlying30
 have hx1:=(hx.alloc (Obj.cells #[] 29)).add;have e1:0+n<=maxLen:=by unfold maxLen;omega
 have e2:(0+n)*16<=140737488355328:=by omega
 have e3:w.heap.size<=(w.alloc (Obj.cells #[] 29)).heap.size:=by simp
 have E:=Hd (Ai hx1 (Ai h1 (Ai e1 (Ai e2 e3))));clear hx1 h1 e1 e2 e3 hx;go_enter Tryz.func37,Tryz.ntmps37;go_wp2_with (at_builtin;refine wpList_append_own _ rfl _ _ 30 rfl w.heap.size 29 i0 _ 2 16 Tryz.underlying30 hi0 hz0 hz1 hz2 rfl (by decide) _ _ _ rfl (World.ownsRow_made w #[] 0 Le (Nat.zero_le _) rfl) ⟨b,off,none⟩ n c xs rfl hl E.out.1 E.out.2.1 E.out.2.2.1 E.out.2.2.2.1 E.out.2.2.2.2 ?_;intro v w1 hown hg _)
 go_ret;refine ⟨v,rfl,by simpa using hown,((Below.refl _ _).alloc Le (.cells #[] 29)).grown hg (by simp) ?_⟩
 intro k hk;have:w.heap.size=k:=by injection hk
 omega
end
section
attribute [local go_sem ↓] Ei Eh
attribute [local go_sem] Oper.semAt_some
def entN (f:Flr) (m:Nat):Nat:=numN f.R f.S 0 (m % f.S) (m / f.S)
theorem entN_lt {f:Flr} (hok:f.Ok) {m:Nat} (hm:m<f.S*f.S):entN f m<f.R*f.S*f.S:=by
 have hS:0<f.S:=by have:=hok.s0;omega
 have h1:m % f.S<f.S:=Nat.mod_lt _ hS;have h2:m / f.S<f.S:=Nat.div_lt_of_lt_mul hm;unfold entN numN;have h3:(m / f.S*f.R+0+1)*f.S<=(f.R*f.S)*f.S:=by
  refine Nat.mul_le_mul_right _ ?_;have h4:(m / f.S+1)*f.R<=f.S*f.R:=Nat.mul_le_mul_right _ h2;have:=hok.r0;rw [Nat.add_mul] at h4;rw [Nat.mul_comm f.R f.S];omega
 rw [Nat.add_mul] at h3;omega
def entEnc (f:Flr) (m:Fin (f.S*f.S)):Array Value:=#[.int .i64 (entN f m.1)]
theorem entries_any (b:Nat) (w:World) :
  Calls Tryz.prog 103 #[.pointer (some ⟨b,0,none⟩)] w fun e w'=>e=.returned (.func (.func 151) #[] #[.pointer (some ⟨w.heap.size,0,none⟩)])/\
   Bk w' w.heap.size 173 #[.pointer (some ⟨b,0,none⟩)]/\Below w.heap.size w w':=by
 have A0:Bk (w.alloc (.cells #[.pointer (some ⟨b,0,none⟩)] 173)) w.heap.size 173 #[.pointer (some ⟨b,0,none⟩)]:=Aa rfl;have hB:Below w.heap.size w (w.alloc (.cells #[.pointer (some ⟨b,0,none⟩)] 173)):=Ba;go_enter Tryz.func103,Tryz.ntmps103;go_wp2_with fail;go_ret;exact ⟨rfl,A0,hB⟩
theorem entries1_stops (n n₀ b B2:Nat) (f:Flr) (z:Hc) (w0 w:World) (hf:Hu w0 b f z) (hok:f.Ok) (hn0:w0.heap.size=n₀) (hw0:Below n₀ w0 w) (h2:Bk w B2 173 #[.pointer (some ⟨b,0,none⟩)]) :
  SeqStopsK Fence.wide n Tryz.prog 151 #[.pointer (some ⟨B2,0,none⟩)] (entEnc f) (KpS n₀) (fun xs=>xs=List.finRange (f.S*f.S)) (fun pre=>pre <+: List.finRange (f.S*f.S)) (f.S*f.S) w:=by
 intro l J Jx W hW hJ hJx hY h0;subst hn0;have hw1:Below w0.heap.size w0 W:=hw0.trans (hW.mono hw0.size);have K2:=h2.keep hW;have HF:=Hd hf;have hk2:=K2.lt;have b2:=K2.cell 0;simp at b2;have s0:=(hf.below hw1).cS;have HNM:=Hd (fun (X:World) (h:Below w0.heap.size w0 X) (sec turn:Nat) (h1:sec<f.S) (h2:turn<f.S)=>number_any b f z 0 sec turn X (hf.below h) hok hok.r0 h1 h2)
 have HS0:=Hd (fun (X:World) (h:Below w0.heap.size w0 X)=>(hf.below h).cS)
 have HOK:=Hd hok;have hS2:=hok.s0;have hS8:=hok.s1;have hJ0:J [] W:=h0;obtain ⟨S,hS⟩:∃ S,f.S=S:=⟨_,rfl⟩;rw [hS] at s0 hS2 hS8;have HS:=Hd hS;clear hS;refine callsIn_of_wp Tryz.func151 rfl trivial ?_ rfl;simp only [Tryz.ntmps151,List.size_toArray,List.length_cons,List.length_nil,Nat.reduceAdd,Nat.reduceSub,Array.replicate_succ,Array.replicate_zero,List.push_toArray,List.append_toArray,List.nil_append,List.cons_append];refine wpIn_wide.2 ?_;go_wp2_with fail;refine (wpIn_wide (n:=n)).1 ?_;gi_loopw [3,9] (fun _ it wr=>∃ k:Nat,k<=S/\it=.int .i64 k/\J ((List.finRange (f.S*f.S)).take (k*S)) wr/\Bk wr B2 173 #[.pointer (some ⟨b,0,none⟩)]/\Below w0.heap.size w0 wr/\W.heap.size<=wr.heap.size) (fun _ it _=>S - (intOf it).toNat)
 case atStart=>exact ⟨0,Nat.zero_le _,rfl,by simpa using hJ0,K2,hw1,Nat.le_refl _⟩
 case round =>
  clear hJ0 K2 b2;obtain ⟨k,hk,rfl,hJk,K2,hwr,hszr⟩:=hrel;have b2:=K2.cell 0;have s0:=HS0.out _ hwr;rw [HS.out] at s0;simp at b2
  by_cases hlt:k<S
  ·have hkI:(k:Int)<S:=by omega
   refine (wpIn_wide (n:=n)).2 ?_;go_wp2_with fail;clear b2 s0;refine (wpIn_wide (n:=n)).1 ?_;gi_loopw [4,16] (fun _ ix ws=>∃ j:Nat,j<=S/\ix=.int .i64 j/\J ((List.finRange (f.S*f.S)).take (k*S+j)) ws/\Bk ws B2 173 #[.pointer (some ⟨b,0,none⟩)]/\Below w0.heap.size w0 ws/\W.heap.size<=ws.heap.size) (fun _ ix _=>S - (intOf ix).toNat)
   case atStart=>exact ⟨0,Nat.zero_le _,rfl,by simpa using hJk,K2,hwr,hszr⟩
   case round =>
    clear hJk K2 hwr hszr;obtain ⟨j,hj,rfl,hJj,K2,hwr,hszr⟩:=hrel
    by_cases hltj:j<S
    ·have hjI:(j:Int)<S:=by omega
     have hmS:k*S+j<f.S*f.S:=by
      rw [HS.out];have:(k+1)*S<=S*S:=Nat.mul_le_mul_right _ hlt;rw [Nat.add_mul] at this;omega
     have HTK:Hid ((List.finRange (f.S*f.S)).take (k*S+j+1)=(List.finRange (f.S*f.S)).take (k*S+j) ++ [⟨k*S+j,hmS⟩]):=by
      refine Hd ?_;rw [List.take_add_one,List.getElem?_eq_getElem (by simpa using hmS)]
      simp
     have hmod:(k*S+j) % S=j:=by rw [Nat.mul_comm,Nat.mul_add_mod];exact Nat.mod_eq_of_lt hltj
     have hdiv:(k*S+j) / S=k:=by rw [Nat.mul_comm,Nat.mul_add_div (by omega),Nat.div_eq_of_lt hltj,Nat.add_zero]
     have HX:Hid (entEnc f ⟨k*S+j,hmS⟩=#[.int .i64 (numN f.R f.S 0 j k)]):=by
      refine Hd ?_;unfold entEnc entN;simp only [HS.out,hmod,hdiv]
     have HN:=Hd (fun (X:World) (h:Below w0.heap.size w0 X)=>HNM.out X h j k (by rw [HS.out];exact hltj) (by rw [HS.out];exact hlt))
     have hplen:((List.finRange (f.S*f.S)).take (k*S+j)).length<f.S*f.S:=by rw [List.length_take,List.length_finRange];omega
     have b2:=K2.cell 0;simp at b2;have HK:=Hd (Ai K2 (Ai hJj hwr));clear hmod hdiv K2 hJj;generalize (⟨k * S + j,hmS⟩:Fin (f.S * f.S))=xk at *;generalize numN f.R f.S 0 j k=nv at *;unfold stV at HN;refine (wpIn_wide (n:=n)).2 ?_;go_upto_region 6 with fail
     refine (wpIn_wide (n:=n)).1 ?_;gi_wp2;refine ⟨trivial,fun h=>(by simp [Fence.wide] at h),(callsIn_wide.2 (HN.out _ hwr)).mono ?_⟩
     rintro e w6 ⟨rfl,hb6⟩;obtain ⟨K2,hJj,_⟩:=HK.out;have hJ6:J ((List.finRange (f.S*f.S)).take (k*S+j)) w6:=hJ _ wr w6 none hJj (Hh hb6) (fun r e=>by cases e)
     have hw6:=hwr.trans (hb6.mono hwr.size);obtain ⟨fn,tmps,assign,body,hy,hR⟩:=hY _ xk w6 hJ6 hplen;rw [HX.out] at hy;have HK6:=Hd (Ai (K2.keep hb6) hw6);have hs56:=hb6.size;clear K2 hJj HK hb6 hJ6 hY hwr b2;gi_wp2;refine ⟨fun h=>(by simp [Fence.wide] at h),hR.mono ?_⟩
     rintro e W7 (⟨rfl,hJ7,hk7⟩ | ⟨rfl,hJx7⟩)
     ·obtain ⟨K6,hw6⟩:=HK6.out;have hz7:W.heap.size<=W7.heap.size:=Nat.le_trans (Nat.le_trans hszr hs56) hk7.1.size;have HE:=Hd (Ai (hk7.bk (Or.inr rfl) K6) (Ai (hw6.trans hk7.1) hz7));rw [<- HTK.out] at hJ7;clear hk7 K6 hw6 HK6;gi_wp2;go_wp2_with fail;go_roundw
      case rel=>exact ⟨j+1,by omega,by go_num,hJ7,HE.out.1,HE.out.2.1,HE.out.2.2⟩
      case measure=>simp [intOf];omega
     ·rw [<- HTK.out] at hJx7;clear HK6;gi_wp2;go_wp2_with fail;refine bodyPost_ret (results_none rfl _ _ _) rfl ?_;exact ⟨⟨_,rfl⟩,.inr ⟨_,List.take_prefix _ _,hJx7⟩⟩
    ·obtain rfl:j=S:=by omega
     have e1:k*j+j=(k+1)*j:=by rw [Nat.add_mul,Nat.one_mul]
     rw [e1] at hJj;gi_wp2;go_wp2_with fail;go_roundw
     case rel=>exact ⟨k+1,by omega,by go_num,hJj,K2,hwr,hszr⟩
     case measure=>simp [intOf];omega
  ·obtain rfl:k=S:=by omega
   have htk:(List.finRange (f.S*f.S)).take (k*k)=List.finRange (f.S*f.S):=List.take_of_length_le (by rw [List.length_finRange,HS.out];exact Nat.le_refl _)
   rw [htk] at hJk;gi_wp2;go_end0;exact ⟨⟨_,rfl⟩,.inl ⟨_,rfl,hJk⟩⟩
end
section
def Hw (w:World) (A:Option Addr) (s n:Nat) (el:Nat->List Value):Prop :=
 (∀ k,k<n->(el k).length=s)/\(0<n->∃ b off,A=some ⟨b,off,none⟩/\b<w.heap.size/\∀ k,k<n->∀ j u,(el k)[j]?=some u->w.cell? ⟨b,off+k*s+j,none⟩=some u)
theorem Hw.below {w w':World} {A:Option Addr} {s n:Nat} {el:Nat->List Value} (h:Hw w A s n el) (hb:Below w.heap.size w w'):Hw w' A s n el :=
 ⟨h.1,fun h0=>by
  obtain ⟨b,off,e,h1,h2⟩:=h.2 h0;exact ⟨b,off,e,Nat.lt_of_lt_of_le h1 hb.size,fun k hk j u hu=>((bcell hb).1 _ _ h1).trans (h2 k hk j u hu)⟩⟩
theorem Hw.of_row {α:Type} {w:World} {A:Option Addr} {s:Nat} (f:α->List Value) (hf:∀ x,(f x).length=s) (hs:0<s) {l:List α} (d:α) (h:Ad w A (l.flatMap f)):Hw w A s l.length (fun k=>f (l.getD k d)) :=
 ⟨fun _ _=>hf _,fun h0=>by
  have hl:(l.flatMap f).length=l.length*s:=Ci _ s hf l;obtain ⟨b,off,h1,h2,h3⟩:=h (by rw [hl];exact Nat.mul_pos h0 hs)
  refine ⟨b,off,h1,h2,fun k hk j u hu=>?_⟩
  have hj:j<s:=by rw [<- hf (l.getD k d)];exact (List.getElem?_eq_some_iff.1 hu).1
  have e:=Cw f s hf hs l k j hk hj;have hu:(f (l.getD k d))[j]?=some u:=hu;rw [Aj _ _ hk] at hu;rw [Nat.add_assoc];exact h3 (k*s+j) u (e.trans hu)⟩
theorem Hw.of_ints {w:World} {A:Option Addr} {l:List Int} (h:Ad w A (Ac l)):Hw w A 1 l.length (fun k=>[.int .i64 (l.getD k 0)]) :=
 ⟨fun _ _=>rfl,fun h0=>by
  obtain ⟨b,off,h1,h2,h3⟩:=Jb h h0;refine ⟨b,off,h1,h2,fun k hk j u hu=>?_⟩
  have hj:j=0:=by have:=(List.getElem?_eq_some_iff.1 hu).1;simp at this;exact this
  subst hj;have hu:([Value.int .i64 (l.getD k 0)]:List Value)[0]?=some u:=hu;rw [Nat.mul_one,Nat.add_zero,h3 k hk];exact hu⟩
theorem Hw.of_cells {w:World} {A:Option Addr} {n:Nat} {f:Nat->Value} (h:Ad w A ((List.range n).map f)):Hw w A 1 n (fun k=>[f k]) :=
 ⟨fun _ _=>rfl,fun h0=>by
  obtain ⟨b,off,h1,h2,h3⟩:=h (by simpa using h0)
  refine ⟨b,off,h1,h2,fun k hk j u hu=>?_⟩
  have hj:j=0:=by have:=(List.getElem?_eq_some_iff.1 hu).1;simp at this;exact this
  subst hj;rw [Nat.mul_one,Nat.add_zero];exact h3 k u (by simp at hu;simp [hk,hu])⟩
theorem list1_of {α:Type} {l:List α} (h:l.length=1):∃ a,l=[a]:=by
 match l,h with
 | [a],_=>exact ⟨a,rfl⟩
theorem list2_of {α:Type} {l:List α} (h:l.length=2):∃ a b,l=[a,b]:=by
 match l,h with
 | [a,b],_=>exact ⟨a,b,rfl⟩
theorem list4_of {α:Type} {l:List α} (h:l.length=4):∃ a b c d,l=[a,b,c,d]:=by
 match l,h with
 | [a,b,c,d],_=>exact ⟨a,b,c,d,rfl⟩
theorem list5_of {α:Type} {l:List α} (h:l.length=5):∃ a b c d e,l=[a,b,c,d,e]:=by
 match l,h with
 | [a,b,c,d,e],_=>exact ⟨a,b,c,d,e,rfl⟩
def Cs (bad:Nat->Bool) (n:Nat):Int:=match (List.range n).find? bad with | some i=>i | none=>-1
def Fd (bad:Nat->Bool) (n:Nat):Bool:=(List.range n).any bad
theorem Es {bad:Nat->Bool} {n k:Nat} (hk:k<n) (h:∀ j,j<k->bad j=false) (hb:bad k=true):Cs bad n=k:=by
 have e:(List.range n).find? bad=some k:=by
  rw [List.find?_range_eq_some];exact ⟨hb,by simpa using hk,fun j hj=>by simp [h j hj]⟩
 simp [Cs,e]
theorem Ea {bad:Nat->Bool} {n:Nat} (h:∀ j,j<n->bad j=false):Cs bad n = -1:=by
 have e:(List.range n).find? bad=none:=by
  rw [List.find?_eq_none];intro j hj;simp [h j (List.mem_range.1 hj)]
 simp [Cs,e]
theorem Et (bad:Nat->Bool) (n:Nat):decide (Cs bad n>=0)=Fd bad n:=by
 unfold Cs Fd;cases e:(List.range n).find? bad with
 | none =>
  have h:(List.range n).any bad=false:=by
   rw [List.any_eq_false];intro j hj;have:=List.find?_eq_none.1 e j hj
   simpa using this
  simp [h]
 | some i =>
  have h:(List.range n).any bad=true:=by
   rw [List.any_eq_true];exact ⟨i,List.mem_of_find?_eq_some e,List.find?_some e⟩
  simp [h]
theorem Fu {bad:Nat->Bool} {n:Nat}:Fd bad n=false↔∀ k,k<n->bad k=false:=by
 unfold Fd;rw [List.any_eq_false];exact ⟨fun h k hk=>by simpa using h k (List.mem_range.2 hk),fun h k hk=>by simp [h k (List.mem_range.1 hk)]⟩
end
end Go.Proofs.YteihcodicfoiaaaGreat
