/-
  What is proved: the contracts of over, moves and next.
-/
import Derived.Test.YteihcodicfoiaaaGreat0Mf
namespace Go.Proofs.YteihcodicfoiaaaGreat
set_option maxRecDepth 100000
set_option maxHeartbeats 4000000
open Go Go.RowKit
attribute [local go_sem ↓] Ei Eh
theorem Aj {α:Type} (l:List α) (d:α) {k:Nat} (hk:k<l.length):l.getD k d=l[k]:=by
 rw [List.getD_eq_getElem?_getD,List.getElem?_eq_getElem hk];rfl
theorem Cg {α:Type} {l:List α} (d:α) {k:Nat} (hk:k<l.length):l.getD k d∈l:=by
 rw [Aj l d hk];exact List.getElem_mem hk
theorem Ad.intD {w:World} {A:Option Addr} {xs:List Int} (h:Ad w A (Ac xs)) (h0:0<xs.length) :
  ∃ b off,A=some ⟨b,off,none⟩/\b<w.heap.size/\∀ k,k<xs.length->w.cell? ⟨b,off+k,none⟩=some (.int .i64 (xs.getD k 0)):=by
 obtain ⟨b,off,h1,h2,h3⟩:=h.int h0;exact ⟨b,off,h1,h2,fun k hk=>by rw [Aj _ _ hk];exact h3 k hk⟩
def runS (S sec turn:Nat):Nat:=(sec+S - turn) % S
theorem runS_val {S sec turn:Nat} (h:turn<S):(((sec:Int) - turn) % S)=(runS S sec turn:Int):=by
 unfold runS;rw [Int.natCast_emod,Int.natCast_sub (by omega),Int.natCast_add]
 rw [show ((sec:Int)+S - turn)=(sec - turn)+S by omega,Int.add_emod_right]
theorem runS_lt {S sec turn:Nat} (h:0<S):runS S sec turn<S:=Nat.mod_lt _ h
theorem cell_lt {R S ring sec:Nat} (h1:ring<R) (h2:sec<S):ring*S+sec<R*S:=by
 have:(ring+1)*S<=R*S:=Nat.mul_le_mul_right S h1;rw [Nat.add_mul] at this;omega
def bedK (f:Flr) (ring sec:Nat):Int:=f.bed.getD (ring*f.S+sec) 0
def runK (f:Flr) (ring sec turn:Nat):Int:=f.run.getD (ring*f.S+runS f.S sec turn) 0
theorem over_any (b:Nat) (f:Flr) (z:Hc) (ring sec turn:Nat) (w:World) (hf:Hu w b f z) (hok:f.Ok) (h1:ring<f.R) (h2:sec<f.S) (h3:turn<f.S) :
  Calls Tryz.prog 170 #[.pointer (some ⟨b,0,none⟩),stV ring sec turn] w fun e w'=>e=.returned (.tuple #[.int .i64 (bedK f ring sec),.int .i64 (runK f ring sec turn)])/\Below w.heap.size w w':=by
 obtain ⟨r0,r1,s0,s1,bl,rl,_,_,_,_⟩:=hok;have hrs:=runS_lt (S:=f.S) (sec:=sec) (turn:=turn) (by omega)
 have c1:=cell_lt h1 h2;have c2:=cell_lt h1 hrs;obtain ⟨b1,o1,ha1,hb1,hc1⟩:=hf.bed.intD (by omega)
 obtain ⟨b2,o2,ha2,hb2,hc2⟩:=hf.run.intD (by omega)
 have d1:=hc1 (ring*f.S+sec) (by omega)
 have d2:=hc2 (ring*f.S+runS f.S sec turn) (by omega)
 have hrv:=runS_val (S:=f.S) (sec:=sec) (turn:=turn) h3;obtain ⟨W,hW⟩:∃ W,w.alloc (.cells #[.int .i64 ring,.int .i64 sec,.int .i64 turn] 178)=W:=⟨_,rfl⟩;have hbW:Below w.heap.size w W:=by rw [<- hW];exact Ba
 have Y:Bk W w.heap.size 178 #[.int .i64 ring,.int .i64 sec,.int .i64 turn]:=by rw [<- hW];exact Aa rfl
 have hfW:=hf.below hbW;have x0:=hfW.cS;have x1:=hfW.cB;have x2:=hfW.cN;rw [ha1] at x1;rw [ha2] at x2;have y0:=Y.cell 0;have y1:=Y.cell 1;have y2:=Y.cell 2;simp at y0 y1 y2;have HR:Hid (∀ x:Ext W,Calls Tryz.prog 81 #[.pointer (some ⟨b,0,none⟩),.int .i64 ((sec:Int) - turn)] x.w fun e w'=>e=.returned (.int .i64 (runS f.S sec turn))/\Below x.w.heap.size x.w w'):=fun x=>by
  rw [<- hrv];exact round_any b f.S _ x.w (by omega) (by omega) (hfW.below x.bel).cS (by omega)
 replace d1:=Ag hbW d1;replace d2:=Ag hbW d2;have HV:Hid (bedK f ring sec=f.bed.getD (ring*f.S+sec) 0/\runK f ring sec turn=f.run.getD (ring*f.S+runS f.S sec turn) 0):=⟨rfl,rfl⟩;have HW:=Hd hW;have q1:(ring:Int)*f.S+sec<f.bed.length:=by rw [bl];omega
 have q2:(ring:Int)*f.S+(runS f.S sec turn:Int)<f.run.length:=by rw [rl];omega
 have hm:=Jj (a:=ring) (b:=f.S) (m:=4) (n:=8) (by omega) (by omega) (by omega) (by omega)
 have hw1:=IntWalk.i64_in ((ring:Int)*f.S) (by omega)
 have hw2:=IntWalk.i64_in ((ring:Int)*f.S+sec) (by omega)
 have hw3:=IntWalk.i64_in ((ring:Int)*f.S+(runS f.S sec turn:Int)) (by omega)
 have hw4:=IntWalk.i64_in ((sec:Int) - turn) (by omega)
 have t1:((ring:Int)*f.S+sec).toNat=ring*f.S+sec:=by omega
 have t2:((ring:Int)*f.S+(runS f.S sec turn:Int)).toNat=ring*f.S+runS f.S sec turn:=by omega
 have q3:0<=(ring:Int)*f.S+sec:=by omega
 have q4:0<=(ring:Int)*f.S+(runS f.S sec turn:Int):=by omega
 clear hf hfW hW Y hc1 hc2 ha1 ha2 hrv c1 c2 bl rl hm;generalize bedK f ring sec=bk at *;generalize runK f ring sec turn=rk at *;generalize f.bed.getD (ring * f.S + sec) 0=bv at *;generalize f.run.getD (ring * f.S + runS f.S sec turn) 0=rv at *;generalize runS f.S sec turn=rs at *;generalize f.bed.length=bl at *;generalize f.run.length=rl at *;generalize f.R=R at *;generalize f.S=S at *;unfold stV;go_enter Tryz.func170,Tryz.ntmps170;go_upto_region 1 with fail
 rw [HW.out];clear HW;replace x0:=fun x:Ext W=>Ag x.bel x0
 replace x1:=fun x:Ext W=>Ag x.bel x1
 replace x2:=fun x:Ext W=>Ag x.bel x2
 replace y0:=fun x:Ext W=>Ag x.bel y0
 replace y1:=fun x:Ext W=>Ag x.bel y1
 replace y2:=fun x:Ext W=>Ag x.bel y2
 replace d1:=fun x:Ext W=>Ag x.bel d1
 replace d2:=fun x:Ext W=>Ag x.bel d2
 refine Bg (by kernel_rfl) (by kernel_rfl) ?_
 repeat (go_big_quiet_step ((go_at_call 81;exact Cj (HR.out _))))
 refine wpQuiet_nil ?_;rintro _ ⟨y,rfl⟩;have hb9:=y.bel;generalize y.w=w9 at hb9 ⊢;clear x0 x1 x2 y0 y1 y2 d1 d2 HR;go_wp2_with fail;go_ret2;exact ⟨by rw [HV.out.1,HV.out.2];rfl,hbW.trans (hb9.mono hbW.size)⟩
def Kf (f:Flr) (ring sec turn:Nat):Nat:=(3*bedK f ring sec+runK f ring sec turn).toNat
def Ju (f:Flr) (ring sec turn:Nat):List Mv:=f.drive.getD (Kf f ring sec turn) []
theorem kinds_in {f:Flr} (hok:f.Ok) {ring sec turn:Nat} (h1:ring<f.R) (h2:sec<f.S):(0<=bedK f ring sec/\bedK f ring sec<=2)/\(0<=runK f ring sec turn/\runK f ring sec turn<=2)/\Kf f ring sec turn<9:=by
 have e1:=hok.bk _ (Cg 0 (show ring*f.S+sec<f.bed.length by have:=cell_lt h1 h2;have:=hok.bl;omega))
 have e2:=hok.rk _ (Cg 0 (show ring*f.S+runS f.S sec turn<f.run.length by
  have:=cell_lt h1 (runS_lt (S:=f.S) (sec:=sec) (turn:=turn) (by have:=hok.s0;omega))
  have:=hok.rl;omega))
 have e3:0<=bedK f ring sec/\bedK f ring sec<=2:=e1;have e4:0<=runK f ring sec turn/\runK f ring sec turn<=2:=e2;refine ⟨e3,e4,?_⟩;unfold Kf;omega
theorem mv_row {w:World} {A:Option Addr} {l:List Mv} (h:Ad w A (Gz l)) (h0:0<l.length) :
  ∃ b off,A=some ⟨b,off,none⟩/\b<w.heap.size/\∀ k (hk:k<l.length),w.cell? ⟨b,off+k*3,none⟩=some (.int .i64 l[k].out)/\w.cell? ⟨b,off+k*3+1,none⟩=some (.int .i64 l[k].side)/\w.cell? ⟨b,off+k*3+2,none⟩=some (.bool l[k].cut):=by
 have hl:(Gz l).length=l.length*3:=Ci _ 3 Mv.cells_len l;obtain ⟨b,off,h1,h2,h3⟩:=h.some_ (by omega)
 refine ⟨b,off,h1,h2,fun k hk=>?_⟩
 have e:=fun j (hj:j<3)=>Cw Mv.cells 3 Mv.cells_len (by omega) l k j hk hj
 refine ⟨h3 _ _ (e 0 (by omega)),?_,?_⟩
 ·rw [Nat.add_assoc];exact h3 _ _ (e 1 (by omega))
 ·rw [Nat.add_assoc];exact h3 _ _ (e 2 (by omega))
theorem moves_any (b:Nat) (f:Flr) (z:Hc) (ring sec turn:Nat) (w:World) (hf:Hu w b f z) (hok:f.Ok) (h1:ring<f.R) (h2:sec<f.S) (h3:turn<f.S) :
  Calls Tryz.prog 125 #[.pointer (some ⟨b,0,none⟩),stV ring sec turn] w fun e w'=>e=.returned (drCell f z (Kf f ring sec turn))/\Below w.heap.size w w':=by
 obtain ⟨k1,k2,k3⟩:=kinds_in hok (turn:=turn) h1 h2;have HO:=Hd (fun (W:World) (h:Below w.heap.size w W)=>over_any b f z ring sec turn W (hf.below h) hok h1 h2 h3)
 have HF:=Hd hf;have hix:3*bedK f ring sec+runK f ring sec turn=(Kf f ring sec turn:Int):=by unfold Kf;omega
 obtain ⟨W,hW⟩:∃ W,w.alloc (.cells #[.int .i64 ring,.int .i64 sec,.int .i64 turn] 178)=W:=⟨_,rfl⟩;have hbW:Below w.heap.size w W:=by rw [<- hW];exact Ba
 have Y:Bk W w.heap.size 178 #[.int .i64 ring,.int .i64 sec,.int .i64 turn]:=by rw [<- hW];exact Aa rfl
 have y0:=Y.cell 0;have y1:=Y.cell 1;have y2:=Y.cell 2;simp at y0 y1 y2;have HW:=Hd hW;clear hW Y hf;unfold stV at *;generalize bedK f ring sec=bk at *;generalize runK f ring sec turn=rk at *;generalize Kf f ring sec turn=ix at *;go_enter Tryz.func125,Tryz.ntmps125;go_upto_region 1 with fail
 rw [HW.out];clear HW;go_upto_region 2 with (go_at_call 170;refine (HO.out _ hbW).mono ?_;rintro e w2 ⟨rfl,hb2⟩)
 clear y0 y1 y2;have hB:=hbW.trans (hb2.mono hbW.size);have hf2:=HF.out.below hB;have x0:=hf2.cD k3;have hw1:=IntWalk.i64_in (3*bk) (by omega)
 have hw2:=IntWalk.i64_in (3*bk+rk) (by omega)
 have hixI:(ix:Int)<9:=by omega
 have q0:0<=3*bk+rk:=by omega
 have q1:3*bk+rk<9:=by omega
 have q2:(3*bk+rk).toNat=ix:=by omega
 have hlt:=hf2.blk.lt;clear hix;go_wp2_with fail;go_ret;exact ⟨rfl,hB⟩
def nextN (f:Flr) (ring sec turn:Nat) (m:Mv):Option Nat :=
 if (ring:Int)+m.out=f.R then none else some (numN f.R f.S ((ring:Int)+m.out).toNat (((sec:Int)+m.side) % f.S).toNat ((turn+1) % f.S))
def nextV (o:Option Nat):Int:=match o with | none=>-1 | some n=>n
theorem next_any (b:Nat) (f:Flr) (z:Hc) (ring sec turn:Nat) (m:Mv) (w:World) (hf:Hu w b f z) (hok:f.Ok) (h1:ring<f.R) (h2:sec<f.S) (h3:turn<f.S)
  (hm:-1<=m.out/\m.out<=1 /\ -1<=m.side/\m.side<=1) :
  Calls Tryz.prog 225 #[.pointer (some ⟨b,0,none⟩),stV ring sec turn,.agg #[.int .i64 m.out,.int .i64 m.side,.bool m.cut]] w fun e w'=>e=.returned (.int .i64 (nextV (nextN f ring sec turn m)))/\Below w.heap.size w w':=by
 obtain ⟨r0,r1,s0,s1,_,_,_,_,_,_⟩:=id hok;have HN:=Hd (fun (W:World) (h:Below w.heap.size w W) (a c d:Nat) (ha:a<f.R) (hc:c<f.S) (hd:d<f.S)=>number_any b f z a c d W (hf.below h) hok ha hc hd)
 have HR:=Hd (fun (W:World) (h:Below w.heap.size w W) (n:Int) (hn:-1000<=n/\n<=1000)=>round_any b f.S n W s0 s1 (hf.below h).cS hn)
 obtain ⟨mo,ms,mc⟩:=m;obtain ⟨W,hW⟩:∃ W,(w.alloc (.cells #[.int .i64 ring,.int .i64 sec,.int .i64 turn] 178)).alloc (.cells #[.int .i64 mo,.int .i64 ms,.bool mc] 247)=W:=⟨_,rfl⟩;have hbW:Below w.heap.size w W:=by rw [<- hW];exact Ba.alloc (by simp) _
 have Y:Bk W w.heap.size 178 #[.int .i64 ring,.int .i64 sec,.int .i64 turn]:=by rw [<- hW];exact (Aa rfl).alloc _
 have Z:Bk W (w.heap.size+1) 247 #[.int .i64 mo,.int .i64 ms,.bool mc]:=by rw [<- hW];exact Aa (by simp)
 have y0:=Y.cell 0;have y1:=Y.cell 1;have y2:=Y.cell 2;have z0:=Z.cell 0;have z1:=Z.cell 1;simp at y0 y1 y2 z0 z1;have x0:=(hf.below hbW).cR;have HW:=Hd hW;clear hW Y Z;simp only at hm;have hw1:=IntWalk.i64_in ((ring:Int)+mo) (by omega)
 have hw2:=IntWalk.i64_in ((sec:Int)+ms) (by omega)
 have hw3:=IntWalk.i64_in ((turn:Int)+1) (by omega)
 unfold stV at *
 by_cases hq:(ring:Int)+mo=f.R
 ·have HV:Hid (nextV (nextN f ring sec turn ⟨mo,ms,mc⟩) = -1):=by simp [Hid,nextN,hq,nextV]
  have hqb:((ring:Int)+mo == f.R)=true:=by simpa using hq
  clear hq;go_enter Tryz.func225,Tryz.ntmps225;go_upto_region 1 with fail
  rw [HW.out];clear HW;go_quiet (fail);go_wp2_with fail;go_ret;exact ⟨by rw [HV.out];rfl,As hbW _⟩
 ·have hqb:((ring:Int)+mo == f.R)=false:=by simpa using hq
  have hmx:max 0 ((ring:Int)+mo)=(((ring:Int)+mo).toNat:Int):=by omega
  have hr2:((ring:Int)+mo).toNat<f.R:=by omega
  have e2:((sec:Int)+ms) % f.S=((((sec:Int)+ms) % f.S).toNat:Int):=by have:=Int.emod_nonneg ((sec:Int)+ms) (b:=f.S) (by omega);omega
  have l2:(((sec:Int)+ms) % f.S).toNat<f.S:=by have:=Int.emod_lt_of_pos ((sec:Int)+ms) (b:=f.S) (by omega);omega
  have e3:((turn:Int)+1) % f.S=(((turn+1) % f.S:Nat):Int):=by simp
  have l3:(turn+1) % f.S<f.S:=Nat.mod_lt _ (by omega)
  have HV:Hid (nextV (nextN f ring sec turn ⟨mo,ms,mc⟩)=numN f.R f.S ((ring:Int)+mo).toNat (((sec:Int)+ms) % f.S).toNat ((turn+1) % f.S)):=by simp [Hid,nextN,hq,nextV]
  have HN2:=Hd (fun (W:World) (h:Below w.heap.size w W)=>HN.out W h _ _ _ hr2 l2 l3)
  have HR2:=Hd (fun (W:World) (h:Below w.heap.size w W)=>HR.out W h ((sec:Int)+ms) (by omega))
  have HR3:=Hd (fun (W:World) (h:Below w.heap.size w W)=>HR.out W h ((turn:Int)+1) (by omega))
  rw [e2] at HR2;rw [e3] at HR3;clear hq HN HR e2 e3;generalize numN f.R f.S ((ring:Int) + mo).toNat (((sec:Int) + ms) % f.S).toNat ((turn + 1) % f.S)=nn at *;generalize ((ring:Int) + mo).toNat=rr at *;generalize (((sec:Int) + ms) % f.S).toNat=ss at *;generalize (turn + 1) % f.S=tt at *;go_enter Tryz.func225,Tryz.ntmps225;go_upto_region 1 with fail
  rw [HW.out];clear HW;have X0:=fun x:Ext W=>Ag x.bel x0
  have Y0:=fun x:Ext W=>Ag x.bel y0
  have Y1:=fun x:Ext W=>Ag x.bel y1
  have Y2:=fun x:Ext W=>Ag x.bel y2
  have Z0:=fun x:Ext W=>Ag x.bel z0
  have Z1:=fun x:Ext W=>Ag x.bel z1
  refine Bg (by kernel_rfl) (by kernel_rfl) ?_
  repeat (go_big_quiet_step (fail))
  refine wpQuiet_nil ?_;rintro _ ⟨y,rfl⟩;clear X0 Y0 Y1 Y2 Z0 Z1;have hb2:=y.bel;generalize y.w=w2 at hb2 ⊢;have hB2:=hbW.trans (hb2.mono hbW.size);replace x0:=Ag hb2 x0;replace y0:=Ag hb2 y0;replace y1:=Ag hb2 y1;replace y2:=Ag hb2 y2;replace z0:=Ag hb2 z0;replace z1:=Ag hb2 z1;go_upto_region 3 with fail
  have K1:Hid (∀ x:Ext w2,Calls Tryz.prog 81 #[.pointer (some ⟨b,0,none⟩),.int .i64 ((sec:Int)+ms)] x.w fun e w'=>e=.returned (.int .i64 ss)/\Below x.w.heap.size x.w w'):=fun x=>HR2.out x.w (hB2.trans (x.bel.mono hB2.size))
  have K2:Hid (∀ x:Ext w2,Calls Tryz.prog 81 #[.pointer (some ⟨b,0,none⟩),.int .i64 ((turn:Int)+1)] x.w fun e w'=>e=.returned (.int .i64 tt)/\Below x.w.heap.size x.w w'):=fun x=>HR3.out x.w (hB2.trans (x.bel.mono hB2.size))
  have K3:Hid (∀ x:Ext w2,Calls Tryz.prog 152 #[.pointer (some ⟨b,0,none⟩),.agg #[.int .i64 rr,.int .i64 ss,.int .i64 tt]] x.w fun e w'=>e=.returned (.int .i64 nn)/\Below x.w.heap.size x.w w'):=fun x=>HN2.out x.w (hB2.trans (x.bel.mono hB2.size))
  replace x0:=fun x:Ext w2=>Ag x.bel x0
  replace y0:=fun x:Ext w2=>Ag x.bel y0
  replace y1:=fun x:Ext w2=>Ag x.bel y1
  replace y2:=fun x:Ext w2=>Ag x.bel y2
  replace z0:=fun x:Ext w2=>Ag x.bel z0
  replace z1:=fun x:Ext w2=>Ag x.bel z1
  refine Bg (by kernel_rfl) (by kernel_rfl) ?_
  repeat (go_big_quiet_step (fail))
  go_big_quiet_step ((go_at_call 81;exact Cj (K1.out _)));repeat (go_big_quiet_step (fail))
  go_big_quiet_step ((go_at_call 81;exact Cj (K2.out _)));repeat (go_big_quiet_step (fail))
  go_big_quiet_step ((go_at_call 152;exact Cj (K3.out _)));repeat (go_big_quiet_step (fail))
  refine wpQuiet_nil ?_;rintro _ ⟨y,rfl⟩;clear x0 y0 y1 y2 z0 z1;have hb3:=y.bel;generalize y.w=w3 at hb3 ⊢;go_wp2_with fail;go_ret;exact ⟨by rw [HV.out];rfl,hB2.trans (hb3.mono hB2.size)⟩
end Go.Proofs.YteihcodicfoiaaaGreat
