/-
  What is proved: contracts and plain facts that TopForget stands on (Covers, StoW, Mix4).
-/
import Derived.Test.YteihcodicfoiaaaGreatEvItMf
import Derived.Test.YteihcodicfoiaaaGreat21Mf
import Derived.Test.YteihcodicfoiaaaGreat32Mf
import Derived.Test.YteihcodicfoiaaaGreatRightMf
import Derived.Test.YteihcodicfoiaaaGreat0Mf
namespace Go.Proofs.YteihcodicfoiaaaGreat
set_option maxRecDepth 100000
set_option maxHeartbeats 4000000
open Go Go.RowKit
section
def bump (l:List Int) (i:Nat):List Int:=l.set i (l.getD i 0+1)
def bumps (l:List Int) (s:Nat):Nat->List Int
 | 0=>l
 | n+1=>bump (bumps l s n) (s+n)
def covered (wide off:Nat) (l:List Int) (ss:List Int):List Int:=ss.foldl (fun l s=>bumps l (off+s.toNat) wide) l
theorem bump_len (l:List Int) (i:Nat):(bump l i).length=l.length:=by simp [bump]
theorem bumps_len (l:List Int) (s:Nat):∀ n,(bumps l s n).length=l.length
 | 0=>rfl
 | n+1=>by rw [bumps,bump_len,bumps_len l s n]
theorem covered_len (wide off:Nat):∀ (ss l:List Int),(covered wide off l ss).length=l.length
 | [],_=>rfl
 | s :: ss,l=>by
  have:=covered_len wide off ss (bumps l (off+s.toNat) wide);unfold covered at *;rw [List.foldl_cons,this,bumps_len]
def Kn (M:Int) (l:List Int):Prop:=∀ x∈l,0<=x/\x<=M
theorem Kn.get {M:Int} {l:List Int} (h:Kn M l) (hM:0<=M) (i:Nat):0<=l.getD i 0/\l.getD i 0<=M:=by
 by_cases hi:i<l.length
 ·exact h _ (Cg 0 hi)
 ·rw [List.getD_eq_getElem?_getD,List.getElem?_eq_none (by omega)]
  exact ⟨Int.le_refl _,hM⟩
theorem Kn.bump {M:Int} {l:List Int} (h:Kn M l) (hM:0<=M) (i:Nat):Kn (M+1) (bump l i):=by
 intro x hx;have hg:=h.get hM i;rcases List.mem_or_eq_of_mem_set hx with hx | rfl
 ·have:=h x hx;omega
 ·omega
theorem Kn.bumps {M:Int} {l:List Int} (h:Kn M l) (hM:0<=M) (s:Nat):∀ n:Nat,Kn (M+n) (bumps l s n)
 | 0=>by simpa [YteihcodicfoiaaaGreat.bumps] using h
 | n+1=>by
  have:=(h.bumps hM s n).bump (by omega) (s+n)
  rw [YteihcodicfoiaaaGreat.bumps];have e:M+((n+1:Nat):Int)=M+n+1:=by omega
  rw [e];exact this
theorem covered_snoc (wide off:Nat) (l ss:List Int) (s:Int):covered wide off l (ss ++ [s])=bumps (covered wide off l ss) (off+s.toNat) wide:=by simp [covered,List.foldl_append]
theorem Kn.covered (wide off:Nat):∀ (ss:List Int) {M:Int} {l:List Int},Kn M l->0<=M->Kn (M+ss.length*wide) (covered wide off l ss)
 | [],M,l,h,_=>by simpa [YteihcodicfoiaaaGreat.covered] using h
 | s :: ss,M,l,h,hM=>by
  have h1:=h.bumps hM (off+s.toNat) wide;have:=Kn.covered wide off ss h1 (by omega)
  have e:M+((s :: ss).length:Int)*wide=M+wide+ss.length*wide:=by simp [Int.add_mul];omega
  rw [e];exact this
structure CovI (w:World) (f:FrD) (g:Nat) (l:List Int) (V:World):Prop where
 bx:Bk V w.heap.size 112 #[.int .i64 f.rings,.int .i64 f.sec,.int .i64 f.wide]
 rw:Bk V g 3 (Ac l).toArray
 gr:w.grownBy V (some g)
theorem CovI.cell {w V:World} {f:FrD} {g:Nat} {l:List Int} (h:CovI w f g l V) {i:Nat} (hi:i<l.length):V.cell? ⟨g,i,none⟩=some (.int .i64 (l.getD i 0)):=by
 rw [h.rw.cell i,List.getElem?_toArray,Aj _ _ hi];simp [Ac,hi]
theorem CovI.bump {w V:World} {f:FrD} {g:Nat} {l:List Int} (h:CovI w f g l V) (hg:g<w.heap.size) (i:Nat):CovI w f g (bump l i) (V.setCell ⟨g,i,none⟩ (.int .i64 (l.getD i 0+1))):=by
 refine ⟨h.bx.far (by simp;omega) _,?_,⟨h.gr.os,h.gr.tape,h.gr.output,by simpa using h.gr.size,fun k hk hne=>?_⟩⟩
 ·have:=h.rw.put i (.int .i64 (l.getD i 0+1));have e:(Ac l).toArray.setIfInBounds i (.int .i64 (l.getD i 0+1))=(Ac (YteihcodicfoiaaaGreat.bump l i)).toArray:=by
   simp [Ac,YteihcodicfoiaaaGreat.bump,List.map_set]
  rwa [e] at this
 ·rw [Below.heap_setCell _ _ _ _ (fun e=>hne (by rw [e]))]
  exact h.gr.block k hk hne
theorem covers_any (f:FrD) (hf:f.Ok) (g off c c2:Nat) (l ss:List Int) (A:Option Addr) (w:World) (hg:Bk w g 3 (Ac l).toArray) (hA:Ad w A (Ac ss)) (hAg:∀ a,A=some a->a.block≠g) (hl:l.length<=2400) (ho:off<=l.length)
  (hs:∀ s∈ss,0<=s/\s+f.wide<=(l.length:Int) - off) (hn:ss.length<=200) (hz:Kn 0 l) :
  Calls Tryz.prog 83 #[f.val,.slice (some ⟨g,off,none⟩) (l.length - off) c,.slice A ss.length c2] w fun e w'=>e=.returned (.tuple #[])/\Bk w' g 3 (Ac (covered f.wide.toNat off l ss)).toArray/\w.grownBy w' (some g):=by
 unfold FrD.val;obtain ⟨N,hN⟩:∃ N,l.length=N:=⟨_,rfl⟩;obtain ⟨W,hW⟩:∃ W,w.alloc (.cells #[.int .i64 f.rings,.int .i64 f.sec,.int .i64 f.wide] 112)=W:=⟨_,rfl⟩;have hbW:Below w.heap.size w W:=by rw [<- hW];exact Ba
 have hglt:=hg.lt;have HI0:Hid (CovI w f g (covered f.wide.toNat off l (ss.take 0)) W):=Hd ⟨by rw [<- hW];exact Aa rfl,hg.keep hbW,⟨hbW.os,hbW.tape,hbW.output,hbW.size,fun k hk _=>hbW.block k hk⟩⟩
 have HR:=Hd (fun (X:World) (h:w.grownBy X (some g))=>(show Ad X A (Ac ss) from fun h0=>by
  obtain ⟨b,o,rfl,h1,h2⟩:=hA h0;have hb:=h.block b h1 (fun e=>hAg _ rfl (by injection e))
  exact ⟨b,o,rfl,Nat.lt_of_lt_of_le h1 h.size,fun j u hu=>by
   have:=h2 j u hu;simp only [World.cell?] at this ⊢;rw [hb];exact this⟩))
 have hw0:=hf.w0;have hw1:=hf.w1;have hs1:=hf.s1;obtain ⟨wd,hwd⟩:∃ wd:Nat,f.wide=wd:=⟨f.wide.toNat,by omega⟩
 have hwdT:f.wide.toNat=wd:=by omega
 rw [hwdT] at HI0 ⊢;rw [hN] at hl ho hs ⊢;have HLEN:Hid (∀ k,(covered wd off l (ss.take k)).length=N):=Hd fun k=>by rw [covered_len,hN]
 have HUP:Hid (∀ k,k<=ss.length->Kn (k*wd) (covered wd off l (ss.take k))):=Hd fun k hk=>by
  have:=Kn.covered wd off (ss.take k) hz (Int.le_refl _);rw [List.length_take,Nat.min_eq_left hk] at this
  simpa using this
 have HW:=Hd hW;have HS:=Hd hs;have HF:Hid (#[Value.int .i64 f.rings,.int .i64 f.sec,.int .i64 f.wide]=#[Value.int .i64 f.rings,.int .i64 f.sec,.int .i64 (wd:Int)]):=Hd (by rw [hwd])
 rw [HF.out];rw [HF.out] at HW;have hwd96:wd<=96:=by omega
 have HWD:=Hd hwd;clear hW hbW hg hA hAg hs hz hN hwd hwdT hw0 hw1 HF;go_enter Tryz.func83,Tryz.ntmps83;go_upto_region 1 with fail
 rw [HW.out];clear HW;go_wp2_with fail;go_loopw [11] (fun i wr=>∃ k:Nat,k<=ss.length/\i=.int .i64 k/\Hid (CovI w f g (covered wd off l (ss.take k)) wr)) (fun i _=>ss.length - (intOf i).toNat)
 case atStart=>exact ⟨0,Nat.zero_le _,rfl,HI0⟩
 case round =>
  clear HI0;obtain ⟨k,hk,rfl,HI⟩:=hrel
  by_cases hlt:k<ss.length
  ·have hkI:(k:Int)<ss.length:=by omega
   obtain ⟨b5,o5,hA5,hb5,hc5⟩:=Jb (HR.out wr HI.out.gr) (by omega)
   have l0:=hc5 k hlt;have hsk:=HS.out _ (Cg 0 hlt);obtain ⟨sn,hsn⟩:∃ sn:Nat,ss.getD k 0=sn:=⟨(ss.getD k 0).toNat,by omega⟩
   have HSN:Hid (covered wd off l (ss.take (k+1))=bumps (covered wd off l (ss.take k)) (off+sn) wd):=Hd (by
    have e:ss.take (k+1)=ss.take k ++ [ss.getD k 0]:=by rw [List.take_add_one,List.getElem?_eq_getElem hlt,Aj _ _ hlt];rfl
    rw [e,covered_snoc,hsn];rfl)
   have HCL:=Hd (HLEN.out k);have HUK:=Hd (HUP.out k hk);rw [hsn] at l0 hsk;rw [HWD.out] at hsk;rw [hA5];have HA5:=Hd hA5;clear hA5 hc5 hsn;generalize covered wd off l (ss.take k)=cl at *;have HM:Hid ((0:Int)<=(k:Int)*wd/\(k:Int)*wd<=19200):=Hd ⟨Int.mul_nonneg (by omega) (by omega),by have:(k:Int)*wd<=200*96:=Int.mul_le_mul (by omega) (by omega) (by omega) (by omega);omega⟩
   have HB0:Hid (CovI w f g (bumps cl (off+sn) 0) wr):=HI;clear HI;go_upto_region 5 with fail
   clear l0;go_loopw [8] (fun i wr=>∃ j:Nat,j<=wd/\i=.int .i64 (sn+j:Nat)/\Hid (CovI w f g (bumps cl (off+sn) j) wr)) (fun i _=>(sn+wd) - (intOf i).toNat)
   case atStart=>exact ⟨0,Nat.zero_le _,rfl,HB0⟩
   case round =>
    clear HB0;obtain ⟨j,hj,rfl,HI⟩:=hrel;have b2:=HI.out.bx.cell 2;simp [HWD.out] at b2
    by_cases hltj:j<wd
    ·have hjI:(sn:Int)+j<sn+wd:=by omega
     have hin:off+(sn+j)<(bumps cl (off+sn) j).length:=by rw [bumps_len,HCL.out];omega
     have v0:=HI.out.cell hin;have hv:=(HUK.out.bumps HM.out.1 (off+sn) j).get (by have:=HM.out;omega) (off+(sn+j))
     have hM2:=HM.out;have hv2:0<=(bumps cl (off+sn) j).getD (off+(sn+j)) 0/\(bumps cl (off+sn) j).getD (off+(sn+j)) 0<=30000:=by omega
     have fz:=HI.out.rw.fz (off+(sn+j));have gl:=HI.out.rw.lt;have HN:=Hd (HI.out.bump hglt (off+(sn+j)));have HE:Hid (bump (bumps cl (off+sn) j) (off+(sn+j))=bumps cl (off+sn) (j+1)):=Hd (by rw [bumps,Nat.add_assoc])
     rw [HE.out] at HN;clear hin hv hM2;generalize (bumps cl (off + sn) j).getD (off + (sn + j)) 0=vv at *;go_wp2_with fail;go_roundw
     case rel=>exact ⟨j+1,by omega,by go_num,HN⟩
     case measure=>simp [intOf];omega
    ·obtain rfl:j=wd:=by omega
     rw [<- HSN.out] at HI;go_wp2_with fail;go_roundw
     case rel=>exact ⟨k+1,by omega,by go_num,HI⟩
     case measure=>simp [intOf];omega
  ·obtain rfl:k=ss.length:=by omega
   rw [List.take_length] at HI;go_wp2_with fail;exact bodyPost_end (results_none rfl _ _ _) rfl ⟨rfl,HI.out.rw,HI.out.gr⟩
end
section
structure Bh where
 kind:Int
 heap:Int
 times:List Int
 tA:Option Addr
 tc:Nat
 dlo:Int
 dhi:Int
def Bh.cells (s:Bh):List Value:=[.int .i64 s.kind,.int .i64 s.heap,.slice s.tA s.times.length s.tc,.int .i64 s.dlo,.int .i64 s.dhi]
structure Da where
 sl:Int
 a:Int
 b:Int
 lo:Int
 hi:Int
def Da.cells (r:Da):List Value:=[.int .i64 r.sl,.int .i64 r.a,.int .i64 r.b,.int .i64 r.lo,.int .i64 r.hi]
def Kt (l:List Bh):List Value:=l.flatMap Bh.cells
def rdCells (l:List Da):List Value:=l.flatMap Da.cells
structure StoL where
 sA:Option Addr
 sc:Nat
 hA:Option Addr
 hc:Nat
 kA:Option Addr
 kc:Nat
 rA:Option Addr
 rc:Nat
def Cx (b:Al) (z:Df) (stone:Int) (gc N cc:Nat) (y:StoL) (ns nh nk nr:Nat):Array Value :=
 #[.int .i64 b.bed.rings,.int .i64 b.bed.sec,.int .i64 b.wide,
  .int .i64 b.bed.eye,.int .i64 b.bed.rings,.int .i64 b.bed.sec,.slice z.bed.1 b.bed.kinds.length z.bed.2,
  .int .i64 b.run.eye,.int .i64 b.run.rings,.int .i64 b.run.sec,.slice z.run.1 b.run.kinds.length z.run.2,
  .slice z.drive.1 b.drive.length z.drive.2,
  .int .i64 b.lift,.int .i64 b.top,.slice z.grades.1 b.grades.length z.grades.2,.int .i64 b.slo,.int .i64 b.shi,
  .slice z.s0.1 b.s0.length z.s0.2,.slice z.s1.1 b.s1.length z.s1.2,.slice z.a0.1 b.a0.length z.a0.2,.slice z.a1.1 b.a1.length z.a1.2,
  .int .i64 b.dlo,.int .i64 b.dhi,.int .i64 b.wide,.slice z.caps.1 b.caps.length z.caps.2,.slice z.reach.1 b.reach.length z.reach.2,
  .slice z.compass.1 b.compass.length z.compass.2,.slice z.pockets.1 b.pockets.length z.pockets.2,.int .i64 b.tol,
  .slice z.meshes.1 b.meshes.length z.meshes.2,.int .i64 b.houses,
  .int .i64 stone,.slice (some ⟨gc,0,none⟩) N cc,.slice y.sA ns y.sc,.slice y.hA nh y.hc,.slice y.kA nk y.kc,.slice y.rA nr y.rc]
structure Gk (w:World) (B pt:Nat) (b:Al) (z:Df) (stone:Int) (gc cc:Nat) (cnt:List Int) (st hp:List (Int×Int)) (S:List Bh) (R:List Da) (y:StoL) (V:World):Prop where
 lt:w.heap.size<=pt/\pt<B/\B<=V.heap.size
 bl:Below w.heap.size w V
 bk:Bk V pt 118 (Cx b z stone gc cnt.length cc y st.length hp.length S.length R.length)
 ss:V.ownsRow w.heap.size 29 2 (.slice y.sA st.length y.sc) st.length (Am st)
 s0:∀ a,y.sA=some a->a.block<B
 hs:V.ownsRow B 29 2 (.slice y.hA hp.length y.hc) hp.length (Am hp)
 ks:V.ownsRow B 62 5 (.slice y.kA S.length y.kc) S.length (Kt S)
 rs:V.ownsRow B 186 5 (.slice y.rA R.length y.rc) R.length (rdCells R)
 cn:Bk V gc 3 (Ac cnt).toArray
 tm:∀ s∈S,∃ g,s.tA=some ⟨g,0,none⟩/\(w.heap.size<=g/\s.times.length<=s.tc)/\Bk V g 3 (Ac s.times).toArray
section
variable {w:World} {B pt:Nat} {b:Al} {z:Df} {stone:Int} {gc cc:Nat} {cnt:List Int} {st hp:List (Int×Int)} {S:List Bh} {R:List Da} {y:StoL} {V V':World}
theorem Gk.below (h:Gk w B pt b z stone gc cc cnt st hp S R y V) (hb:Below V.heap.size V V'):Gk w B pt b z stone gc cc cnt st hp S R y V' :=
 ⟨⟨h.lt.1,h.lt.2.1,Nat.le_trans h.lt.2.2 hb.size⟩,h.bl.trans (hb.mono h.bl.size),h.bk.keep hb,Ca h.ss hb,h.s0,Ca h.hs hb,Ca h.ks hb,Ca h.rs hb,h.cn.keep hb,fun s hs=>by
  obtain ⟨g,h1,h2,h3⟩:=h.tm s hs;exact ⟨g,h1,h2,h3.keep hb⟩⟩
theorem Gk.drew (h:Gk w B pt b z stone gc cc cnt st hp S R y V):Gk w B pt b z stone gc cc cnt st hp S R y V.drew:=h.below (Below.refl _ V).drew
theorem own_farP {base:Nat} {t:TypeId} {size n:Nat} {v:Value} {xs:List Value} {cs0:Array Value} (hv:V'.ownsRow base t size v n xs) (ht:t≠118) (hb:Bk V' pt 118 cs0) (c:Nat) (u:Value):(V'.setCell ⟨pt,c,none⟩ u).ownsRow base t size v n xs:=by
 refine own_far hv ?_ u;intro e;obtain ⟨cs,hcs⟩:=Ck hv e;have:=hcs.symm.trans hb;simp at this;exact ht this.2
theorem Gk.pushStep (h:Gk w B pt b z stone gc cc cnt st hp S R y V) {s:Bh} (hs':∃ g,s.tA=some ⟨g,0,none⟩/\(w.heap.size<=g/\s.times.length<=s.tc)/\Bk V g 3 (Ac s.times).toArray) {A':Option Addr} {c':Nat} (hown:V'.ownsRow B 62 5 (.slice A' (S.length+1) c') (S.length+1) (Kt S ++ s.cells)) (hg:V.grownBy V' (Value.slice y.kA S.length y.kc).ownBlock) :
  Gk w B pt b z stone gc cc cnt st hp (S ++ [s]) R { y with kA:=A',kc:=c' } (V'.setCell ⟨pt,35,none⟩ (.slice A' (S.length+1) c')):=by
 have hbk:Bk V' pt 118 (Cx b z stone gc cnt.length cc y st.length hp.length S.length R.length):=(hg.block pt h.bk.lt (Bl h.ks h.bk (by decide))).trans h.bk
 have kp:∀ {q:Nat} {t:TypeId} {cs:Array Value},Bk V q t cs->t≠62->t≠118->Bk (V'.setCell ⟨pt,35,none⟩ (.slice A' (S.length+1) c')) q t cs:=fun hq h1 h2=>by
  refine Bk.far ((hg.block _ hq.lt (Bl h.ks hq h1)).trans hq) ?_ _;rintro rfl;have:=hq.symm.trans h.bk;simp at this;exact h2 this.2
 have ok:∀ {base t size n:Nat} {v:Value} {xs:List Value},V.ownsRow base t size v n xs->t≠62->t≠118->(V'.setCell ⟨pt,35,none⟩ (.slice A' (S.length+1) c')).ownsRow base t size v n xs:=fun hv h1 h2=>by
  refine own_farP (Bt hv hg fun k hk e=>?_) h2 hbk _ _
  obtain ⟨cs,hcs⟩:=Ck hv hk;exact Bl h.ks hcs h1 e.symm
 have hl:(S ++ [s]).length=S.length+1:=by simp
 have hl2:Kt (S ++ [s])=Kt S ++ s.cells:=by simp [Kt]
 refine ⟨⟨h.lt.1,h.lt.2.1,by have:=h.lt.2.2;have:=hg.size;simp;omega⟩,Below.setCell ⟨hg.os.trans h.bl.os,hg.tape.trans h.bl.tape,hg.output.trans h.bl.output,Nat.le_trans h.bl.size hg.size,fun i hi=>(hg.block i (by have:=h.bl.size;omega) (fun e=>by have:=(h.ks.lt i e.symm).1;have:=h.lt;omega)).trans (h.bl.block i hi)⟩ (by simpa using h.lt.1) _,?_,ok h.ss (by decide) (by decide),h.s0,ok h.hs (by decide) (by decide),?_,ok h.rs (by decide) (by decide),kp h.cn (by decide) (by decide),fun x hx=>?_⟩
 ·have:=hbk.put 35 (.slice A' (S.length+1) c');rw [hl];exact this
 ·rw [hl,hl2];exact own_farP hown (by decide) hbk _ _
 ·have h':∃ g,x.tA=some ⟨g,0,none⟩/\(w.heap.size<=g/\x.times.length<=x.tc)/\Bk V g 3 (Ac x.times).toArray:=by
   rcases List.mem_append.1 hx with hx | hx
   ·exact h.tm x hx
   ·rw [List.mem_singleton.1 hx];exact hs'
  obtain ⟨g,h1,h2,h3⟩:=h';exact ⟨g,h1,h2,kp h3 (by decide) (by decide)⟩
theorem Gk.pushRead (h:Gk w B pt b z stone gc cc cnt st hp S R y V) {r:Da} {A':Option Addr} {c':Nat} (hown:V'.ownsRow B 186 5 (.slice A' (R.length+1) c') (R.length+1) (rdCells R ++ r.cells)) (hg:V.grownBy V' (Value.slice y.rA R.length y.rc).ownBlock) :
  Gk w B pt b z stone gc cc cnt st hp S (R ++ [r]) { y with rA:=A',rc:=c' } (V'.setCell ⟨pt,36,none⟩ (.slice A' (R.length+1) c')):=by
 have hbk:Bk V' pt 118 (Cx b z stone gc cnt.length cc y st.length hp.length S.length R.length):=(hg.block pt h.bk.lt (Bl h.rs h.bk (by decide))).trans h.bk
 have kp:∀ {q:Nat} {t:TypeId} {cs:Array Value},Bk V q t cs->t≠186->t≠118->Bk (V'.setCell ⟨pt,36,none⟩ (.slice A' (R.length+1) c')) q t cs:=fun hq h1 h2=>by
  refine Bk.far ((hg.block _ hq.lt (Bl h.rs hq h1)).trans hq) ?_ _;rintro rfl;have:=hq.symm.trans h.bk;simp at this;exact h2 this.2
 have ok:∀ {base t size n:Nat} {v:Value} {xs:List Value},V.ownsRow base t size v n xs->t≠186->t≠118->(V'.setCell ⟨pt,36,none⟩ (.slice A' (R.length+1) c')).ownsRow base t size v n xs:=fun hv h1 h2=>by
  refine own_farP (Bt hv hg fun k hk e=>?_) h2 hbk _ _
  obtain ⟨cs,hcs⟩:=Ck hv hk;exact Bl h.rs hcs h1 e.symm
 have hl:(R ++ [r]).length=R.length+1:=by simp
 have hl2:rdCells (R ++ [r])=rdCells R ++ r.cells:=by simp [rdCells]
 refine ⟨⟨h.lt.1,h.lt.2.1,by have:=h.lt.2.2;have:=hg.size;simp;omega⟩,Below.setCell ⟨hg.os.trans h.bl.os,hg.tape.trans h.bl.tape,hg.output.trans h.bl.output,Nat.le_trans h.bl.size hg.size,fun i hi=>(hg.block i (by have:=h.bl.size;omega) (fun e=>by have:=(h.rs.lt i e.symm).1;have:=h.lt;omega)).trans (h.bl.block i hi)⟩ (by simpa using h.lt.1) _,?_,ok h.ss (by decide) (by decide),h.s0,ok h.hs (by decide) (by decide),ok h.ks (by decide) (by decide),?_,kp h.cn (by decide) (by decide),fun x hx=>?_⟩
 ·have:=hbk.put 36 (.slice A' (R.length+1) c');rw [hl];exact this
 ·rw [hl,hl2];exact own_farP hown (by decide) hbk _ _
 ·obtain ⟨g,h1,h2,h3⟩:=h.tm x hx;exact ⟨g,h1,h2,kp h3 (by decide) (by decide)⟩
theorem Gk.pushHeap (h:Gk w B pt b z stone gc cc cnt st hp S R y V) (s:Int×Int) {A':Option Addr} {c':Nat} (hown:V'.ownsRow B 29 2 (.slice A' (hp.length+1) c') (hp.length+1) (Am hp ++ [.int .i64 s.1,.int .i64 s.2])) (hg:V.grownBy V' (Value.slice y.hA hp.length y.hc).ownBlock) :
  Gk w B pt b z stone gc cc cnt st (hp ++ [s]) S R { y with hA:=A',hc:=c' } (V'.setCell ⟨pt,34,none⟩ (.slice A' (hp.length+1) c')):=by
 have hbk:Bk V' pt 118 (Cx b z stone gc cnt.length cc y st.length hp.length S.length R.length):=(hg.block pt h.bk.lt (Bl h.hs h.bk (by decide))).trans h.bk
 have kp:∀ {q:Nat} {t:TypeId} {cs:Array Value},Bk V q t cs->t≠29->t≠118->Bk (V'.setCell ⟨pt,34,none⟩ (.slice A' (hp.length+1) c')) q t cs:=fun hq h1 h2=>by
  refine Bk.far ((hg.block _ hq.lt (Bl h.hs hq h1)).trans hq) ?_ _;rintro rfl;have:=hq.symm.trans h.bk;simp at this;exact h2 this.2
 have ok:∀ {base t size n:Nat} {v:Value} {xs:List Value},V.ownsRow base t size v n xs->(∀ k,v.ownBlock=some k->(Value.slice y.hA hp.length y.hc).ownBlock≠some k)->t≠118->(V'.setCell ⟨pt,34,none⟩ (.slice A' (hp.length+1) c')).ownsRow base t size v n xs:=fun hv h1 h2 =>
  own_farP (Bt hv hg h1) h2 hbk _ _
 have nt:∀ {base t size n:Nat} {v:Value} {xs:List Value},V.ownsRow base t size v n xs->t≠29->∀ k,v.ownBlock=some k->(Value.slice y.hA hp.length y.hc).ownBlock≠some k:=fun hv h1 k hk e=>by
  obtain ⟨cs,hcs⟩:=Ck hv hk;exact Bl h.hs hcs h1 e.symm
 have hl:(hp ++ [s]).length=hp.length+1:=by simp
 have hl2:Am (hp ++ [s])=Am hp ++ [.int .i64 s.1,.int .i64 s.2]:=by simp [Am]
 refine ⟨⟨h.lt.1,h.lt.2.1,by have:=h.lt.2.2;have:=hg.size;simp;omega⟩,Below.setCell ⟨hg.os.trans h.bl.os,hg.tape.trans h.bl.tape,hg.output.trans h.bl.output,Nat.le_trans h.bl.size hg.size,fun i hi=>(hg.block i (by have:=h.bl.size;omega) (fun e=>by have:=(h.hs.lt i e.symm).1;have:=h.lt;omega)).trans (h.bl.block i hi)⟩ (by simpa using h.lt.1) _,?_,ok h.ss (fun k hk e=>?_) (by decide),h.s0,?_,ok h.ks (nt h.ks (by decide)) (by decide),ok h.rs (nt h.rs (by decide)) (by decide),kp h.cn (by decide) (by decide),fun x hx=>?_⟩
 ·have:=hbk.put 34 (.slice A' (hp.length+1) c');rw [hl];exact this
 ·have h1:=(h.hs.lt k e).1;cases hA:y.sA with
  | none=>rw [hA] at hk;simp [Value.ownBlock] at hk
  | some a =>
   rw [hA] at hk;have h2:=h.s0 a hA;simp [Value.ownBlock] at hk;omega
 ·rw [hl,hl2];exact own_farP hown (by decide) hbk _ _
 ·obtain ⟨g,h1,h2,h3⟩:=h.tm x hx;exact ⟨g,h1,h2,kp h3 (by decide) (by decide)⟩
end
end
section
section
variable {P:Program} {ops:Array Oper} {md:Region.Mode} {C:World->Prop} {Q:Exit->Act->World->Prop}
def readOp (o:Oper):Bool:=match o.op with | .move _ | .assign _ | .load _ _ | .fieldAddr _ _ _ | .indexAddr _ _ _ | .nilCheck _=>true | _=>false
theorem bind_ok {α β:Type} {s:Sem α} {f:α->Sem β} {w w':World} {r:β} (h:Sem.run P (s >>= f) w=.ok r w'):∃ a w1,Sem.run P (f a) w1=.ok r w':=by
 rw [Sem.run_bind] at h;cases hs:Sem.run P s w with
 | ok v w1=>rw [hs] at h;exact ⟨v,w1,h⟩
 | halt x w1=>rw [hs] at h;simp [Result.andThen] at h
theorem val_only (s:Sem Value) (w w':World) (n:Next) (h:Sem.run P (do pure (Next.value (<- s))) w=.ok n w'):∃ u,n=.value u:=by
 rw [Sem.run_bind] at h;cases hs:Sem.run P s w with
 | ok v w1 =>
  rw [hs] at h;simp only [Result.andThen,Sem.run_pure] at h;injection h with h1 _
  exact ⟨v,h1.symm⟩
 | halt x w1=>rw [hs] at h;simp [Result.andThen] at h
def Hq (P:Program) (ops:Array Oper) (C:World->Prop) (o:Oper) (v:Value) (a:Act):Prop :=
 (Region.wanted o (yielded ops a.tmps)=true/\∀ w,C w->(execOp a.eval o).run P w=.ok (.value v) w)\/(Region.wanted o (yielded ops a.tmps)=false/\v=undef)
theorem Hq.of_same {o:Oper} {v:Value} {a a':Act} (hy:Hq P ops C o v a) (he:execOp a'.eval o=execOp a.eval o)
  (hw:Region.wanted o (yielded ops a'.tmps)=Region.wanted o (yielded ops a.tmps)):Hq P ops C o v a':=by
 unfold Hq at *;rw [he,hw];exact hy
theorem Hq.wpOp {i:Nat} {o:Oper} {v:Value} {a:Act} {w:World} (hi:ops[i]?=some o) (hy:Hq P ops C o v a) (hC:C w) {K:Act->World->Prop} (h:K (a.put o.dst v) w):wpOp P ops Q i K a w:=by
 unfold Go.wpOp;simp only [hi];rcases hy with ⟨hw,hv⟩ | ⟨hw,rfl⟩
 ·simp only [hw,if_true];refine .inl ?_;unfold Oper.wp;rw [hv w hC];exact h
 ·simp only [hw,Bool.false_eq_true,if_false];exact h
theorem wpOp_putS {j:Nat} {oi oj:Oper} {v:Value} (hj:ops[j]?=some oj) (hap:oi.apart ops oj=true)
  (hsi:∀ cs b,oi.op≠.select cs b) (hsj:∀ cs b,oj.op≠.select cs b)
  (hQ:∀ c a w,Q (.panic c) (a.put oi.dst v) w->Q (.panic c) a w) {K:Act->World->Prop} {a:Act} {w:World}
  (hy:Hq P ops C oi v a) (h:wpOp P ops Q j K (a.put oi.dst v) w) :
  wpOp P ops Q j (fun a' w'=>Hq P ops C oi v a'/\K (a'.put oi.dst v) w') a w:=by
 obtain ⟨h1,h2,h3⟩:=Oper.apart_spec hap;have keep:∀ (a:Act),Hq P ops C oi v a->∀ u,Hq P ops C oi v (a.put oj.dst u):=fun a hy u =>
  hy.of_same (execOp_put oi hsi a oj.dst u h3) (wanted_put oi a oj.dst u h3)
 have keepD:∀ d,Hq P ops C oi v { a with defers:=d :: a.defers }:=fun d=>hy.of_same rfl rfl
 unfold wpOp at *;simp only [hj] at *;rw [wanted_put oj a oi.dst v h1] at h
 split
 ·rename_i hw;simp only [hw,if_true] at h;rcases h with h | ⟨hasks,hlets⟩
  case inr=>exact .inr ⟨by unfold Oper.asks at *;rw [execOp_put oj hsj a oi.dst v h1] at hasks;exact hasks,hlets⟩
  refine .inl ?_;unfold Oper.wp at *;rw [execOp_put oj hsj a oi.dst v h1] at h;generalize (execOp a.eval oj).run P w=r at *;cases r with
  | ok n w' =>
   cases n<;>simp only [Oper.upon] at h ⊢
   case value u=>exact ⟨keep a hy u,by rw [<- Act.put_comm a v u h2];exact h⟩
   case skip=>exact ⟨keep a hy _,by rw [<- Act.put_comm a v undef h2];exact h⟩
   case defer d =>
    refine ⟨keep _ (keepD d) _,?_⟩;rw [<- Act.put_comm _ v undef h2,<- Act.put_defers];exact h
   case enter f args =>
    refine Calls.mono h fun e w'' he=>?_
    cases e with
    | returned u=>exact ⟨keep a hy u,by rw [<- Act.put_comm a v u h2];exact he⟩
    | panicked c=>exact hQ _ _ _ he
    | outgrown=>exact he
   case row row args=>exact Rows.mono h fun u w'' he=>⟨keep a hy u,by rw [<- Act.put_comm a v u h2];exact he⟩
  | halt x w' =>
   cases x<;>simp only [Oper.upon] at h ⊢
   case panic u=>exact hQ _ _ _ h
 ·rename_i hw;simp only [hw] at h;exact ⟨keep a hy _,by rw [<- Act.put_comm a v undef h2];exact h⟩
def wpAnyC (P:Program) (md:Region.Mode) (ops:Array Oper) (C:World->Prop) (Q:Exit->Act->World->Prop) (r n:Nat):Nat->Array Bool->Act->World->Prop
 | 0,listed,a,w=>Region.ready md ops listed=[]/\Q .normal a w
 | fuel+1,listed,a,w =>
  (Region.ready md ops listed=[]->Q .normal a w)/\
  ∀ i∈Region.ready md ops listed,wpOp P ops Q i (fun a' w'=>(r<=i->i<=n->C w')/\wpAnyC P md ops C Q r n fuel (listed.setIfInBounds i true) a' w') a w
theorem wpAny_of_C {r n:Nat}:∀ (f:Nat) (listed:Array Bool) (a:Act) (w:World),wpAnyC P md ops C Q r n f listed a w->wpAny P md ops Q f listed a w
 | 0,_,_,_,h=>h
 | f+1,_,_,_,h=>⟨h.1,fun i hi=>wpOp_mono (fun a' w' h'=>wpAny_of_C f _ a' w' h'.2) (h.2 i hi)⟩
theorem wpAnyC_of {r n:Nat}:∀ (f:Nat) (listed:Array Bool) (a:Act) (w:World),(∀ j,j<=n->listed.getD j true=true)->wpAny P md ops Q f listed a w->wpAnyC P md ops C Q r n f listed a w
 | 0,_,_,_,_,h=>h
 | f+1,listed,_,_,hl,h=>⟨h.1,fun i hi=>wpOp_mono (fun a' w' h'=>⟨fun _ hin=>(by
   have h1:=(mem_ready.1 hi).1;rw [hl i hin] at h1;cases h1),wpAnyC_of f _ a' w' (fun j hj=>by
   by_cases hij:i=j
   ·subst hij;rcases Nat.lt_or_ge i listed.size with h1 | h1
    ·simp [h1]
    ·simp
   ·rw [Go.getD_set_ne true hij];exact hl j hj) h'⟩) (h.2 i hi)⟩
theorem wpAnyC_of_headM {r n g m:Nat} {L:Array Bool->Act->Prop} (hL:∀ listed a,L listed a->∀ w,C w->wpAnyC P md ops C Q r m g listed a w) :
  ∀ (f:Nat) (listed:Array Bool) (a:Act) (w:World),C w->wpAnyM P md ops C n L f listed a->wpAnyC P md ops C Q r m (f+g) listed a w
 | 0,listed,a,w,hC,h=>by rw [Nat.zero_add];exact hL _ _ h w hC
 | f+1,listed,a,w,hC,h=>by
  rw [show f+1+g=(f+g)+1 by omega]
  exact ⟨fun h0=>absurd h0 h.1,fun i hi=>wpOp_of_qOp hC (fun a' w' hC' h'=>⟨fun _ _=>hC',wpAnyC_of_headM hL f _ a' w' hC' h'⟩) (h.2 i hi).2⟩
theorem set_keep {listed:Array Bool} {k j:Nat} (h:listed.getD k true=true):(listed.setIfInBounds j true).getD k true=true:=by
 by_cases hjk:j=k
 ·subst hjk;rcases Nat.lt_or_ge j listed.size with h1 | h1
  ·simp [h1]
  ·simp
 ·rw [Go.getD_set_ne true hjk];exact h
theorem wpAnyC_plain {r n i:Nat} {oi:Oper} {v:Value} (hi:ops[i]?=some oi) (hsel:∀ (j:Nat) (o:Oper) cs b,ops[j]?=some o->o.op≠.select cs b)
  (hQ:∀ c a w,Q (.panic c) (a.put oi.dst v) w->Q (.panic c) a w) (hin:i<r) :
  ∀ (fuel:Nat) (listed:Array Bool) (a:Act) (w:World),
   (∀ j oj,ops[j]?=some oj->j≠i->listed.getD j true=false->(∀ e∈oj.after,Region.binds md e=true->e.on≠i)->oi.apart ops oj=true)->
   i∈Region.ready md ops listed->Hq P ops (fun _=>True) oi v a ->
   wpAnyC P md ops C Q r n fuel (listed.setIfInBounds i true) (a.put oi.dst v) w->wpAnyC P md ops C Q r n (fuel+1) listed a w:=by
 intro fuel
 induction fuel with
 | zero =>
  intro listed a w _ hr hy H;refine ⟨fun h=>(by rw [h] at hr;cases hr),fun j hj=>?_⟩
  by_cases hji:j=i
  ·subst hji;exact hy.wpOp hi trivial ⟨fun h _=>absurd hin (by omega),H⟩
  ·have:=ready_mono hj hji;rw [H.1] at this;cases this
 | succ fuel ih =>
  intro listed a w hfree hr hy H;have hun:=(mem_ready.1 hr).1;refine ⟨fun h=>(by rw [h] at hr;cases hr),fun j hj=>?_⟩
  by_cases hji:j=i
  ·subst hji;exact hy.wpOp hi trivial ⟨fun h _=>absurd hin (by omega),H⟩
  ·have h1:=H.2 j (ready_mono hj hji);obtain ⟨hjun,oj,hoj,hall⟩:=mem_ready.1 hj;have hnot:∀ e∈oj.after,Region.binds md e=true->e.on≠i:=fun e he hb heq=>by
    have h1:=hall e he hb;rw [heq,getD_both hun] at h1;cases h1
   have h2:=wpOp_putS hoj (hfree j oj hoj hji hjun hnot) (fun cs b=>hsel i oi cs b hi) (fun cs b=>hsel j oj cs b hoj) hQ hy h1
   have hfree':∀ k ok,ops[k]?=some ok->k≠i->(listed.setIfInBounds j true).getD k true=false ->
     (∀ e∈ok.after,Region.binds md e=true->e.on≠i)->oi.apart ops ok=true:=fun k ok hk hki hun hno=>by
    refine hfree k ok hk hki ?_ hno
    by_cases hjk:j=k
    ·subst hjk;exact hjun
    ·rw [Go.getD_set_ne true hjk] at hun;exact hun
   refine wpOp_mono (fun a' w' h3=>?_) h2
   refine ⟨h3.2.1,ih (listed.setIfInBounds j true) a' w' hfree' (ready_mono hr (Ne.symm hji)) h3.1 ?_⟩;rw [Array.setIfInBounds_comm _ _ hji];exact h3.2.2
theorem wpAnyC_first {r n i:Nat} {oi:Oper} {v:Value} (hi:ops[i]?=some oi) (hsel:∀ (j:Nat) (o:Oper) cs b,ops[j]?=some o->o.op≠.select cs b)
  (hQ:∀ c a w,Q (.panic c) (a.put oi.dst v) w->Q (.panic c) a w) (hs:sinkS md ops r (n+1)=true) (hc:treeB md ops (n+1)=true) (hn:n+1<ops.size) (hin:i<=n) :
  ∀ (fuel:Nat) (listed:Array Bool) (a:Act) (w:World),HeadInv md ops (n+1) listed->(∀ j,j<r->listed.getD j true=true)->
   (∀ j oj,ops[j]?=some oj->j≠i->listed.getD j true=false->(∀ e∈oj.after,Region.binds md e=true->e.on≠i)->oi.apart ops oj=true)->
   i∈Region.ready md ops listed->Hq P ops C oi v a->C w ->
   wpAnyC P md ops C Q r n fuel (listed.setIfInBounds i true) (a.put oi.dst v) w->wpAnyC P md ops C Q r n (fuel+1) listed a w:=by
 intro fuel
 induction fuel with
 | zero =>
  intro listed a w _ _ _ hr hy hC H;refine ⟨fun h=>(by rw [h] at hr;cases hr),fun j hj=>?_⟩
  by_cases hji:j=i
  ·subst hji;exact hy.wpOp hi hC ⟨fun _ _=>hC,H⟩
  ·have:=ready_mono hj hji;rw [H.1] at this;cases this
 | succ fuel ih =>
  intro listed a w inv hS hfree hr hy hC H;have hun:=(mem_ready.1 hr).1;refine ⟨fun h=>(by rw [h] at hr;cases hr),fun j hj=>?_⟩
  by_cases hji:j=i
  ·subst hji;exact hy.wpOp hi hC ⟨fun _ _=>hC,H⟩
  ·have hjn:j<n+1:=by
    rcases Nat.lt_or_ge j (n+1) with h | h
    ·exact h
    ·exact absurd hj (tail_waits2 hs hc hn inv hS _ i rfl (by omega) hun j h)
   have h1:=H.2 j (ready_mono hj hji);obtain ⟨hjun,oj,hoj,hall⟩:=mem_ready.1 hj;have hnot:∀ e∈oj.after,Region.binds md e=true->e.on≠i:=fun e he hb heq=>by
    have h1:=hall e he hb;rw [heq,getD_both hun] at h1;cases h1
   have h2:=wpOp_putS hoj (hfree j oj hoj hji hjun hnot) (fun cs b=>hsel i oi cs b hi) (fun cs b=>hsel j oj cs b hoj) hQ hy h1
   have hfree':∀ k ok,ops[k]?=some ok->k≠i->(listed.setIfInBounds j true).getD k true=false ->
     (∀ e∈ok.after,Region.binds md e=true->e.on≠i)->oi.apart ops ok=true:=fun k ok hk hki hun hno=>by
    refine hfree k ok hk hki ?_ hno
    by_cases hjk:j=k
    ·subst hjk;exact hjun
    ·rw [Go.getD_set_ne true hjk] at hun;exact hun
   refine wpOp_mono (fun a' w' h3=>?_) h2
   have hC':=h3.2.1 (Nat.le_of_not_lt fun h=>by rw [hS j h] at hjun;cases hjun) (by omega)
   refine ⟨fun _ _=>hC',ih (listed.setIfInBounds j true) a' w' (inv.set hj hjn) (fun k hk=>set_keep (hS k hk)) hfree' (ready_mono hr (Ne.symm hji)) h3.1 hC' ?_⟩
   rw [Array.setIfInBounds_comm _ _ hji];exact h3.2.2
theorem read_still {o:Oper} {a:Act} {K:Act->Prop} (hp:readOp o=true) (h:o.quiet P a C K) :
  ∃ v,(∀ w,C w->(execOp a.eval o).run P w=.ok (.value v) w)/\K (a.put o.dst v):=by
 obtain ⟨v,hv,hK⟩:=h;refine ⟨v,fun w hC=>?_,hK⟩
 have h1:=hv w hC;unfold Oper.quietAt at h1;have key:∀ n w',(execOp a.eval o).run P w=.ok n w'->∃ u,n=.value u:=by
  intro n w' hr;unfold readOp at hp
  split at hp
  ·rename_i x hx;unfold execOp at hr;rw [hx] at hr;injection hr with hr _
   exact ⟨_,hr.symm⟩
  ·rename_i x hx;unfold execOp at hr;rw [hx] at hr;injection hr with hr _
   exact ⟨_,hr.symm⟩
  ·rename_i hx;unfold execOp at hr;rw [hx] at hr;exact val_only _ _ _ _ hr
  ·rename_i hx;unfold execOp at hr;rw [hx] at hr;exact val_only _ _ _ _ hr
  ·rename_i hx;unfold execOp at hr;rw [hx] at hr;exact val_only _ _ _ _ hr
  ·rename_i x hx;unfold execOp at hr;rw [hx] at hr;simp only at hr
   split at hr
   ·simp [runtimePanic,Sem.run] at hr
   ·simp [runtimePanic,Sem.run] at hr
   ·simp [runtimePanic,Sem.run] at hr
   ·split at hr
    ·simp [runtimePanic,Sem.run] at hr
    ·obtain ⟨p,w1,hr⟩:=bind_ok hr;obtain ⟨q,w2,hr⟩:=bind_ok hr
     split at hr
     ·obtain ⟨_,w3,hr⟩:=bind_ok hr;rw [Sem.run_pure] at hr;injection hr with hr _
      exact ⟨_,hr.symm⟩
     ·rw [Sem.run_pure] at hr;injection hr with hr _
      exact ⟨_,hr.symm⟩
    ·injection hr with hr _
     exact ⟨_,hr.symm⟩
   ·injection hr with hr _
    exact ⟨_,hr.symm⟩
  ·cases hp
 cases hr:(execOp a.eval o).run P w with
 | ok n w' =>
  obtain ⟨u,rfl⟩:=key n w' hr;rw [hr] at h1;obtain ⟨rfl,rfl⟩:=h1;rfl
 | halt x w'=>rw [hr] at h1;exact h1.elim
def makesC (P:Program) (ops:Array Oper) (C:World->Prop) (Q:Exit->Act->World->Prop) (o:Oper) (rest:List Oper) (a:Act):Prop :=
 o.guard=none/\∀ w,C w->∃ v w',(execOp a.eval o).run P w=.ok (.value v) w'/\C w'/\wpList P ops Q rest (a.put o.dst v) w'
def tailM (md:Region.Mode) (ops:Array Oper) (g n:Nat) (listed:Array Bool):Bool :=
 decide (Region.ready md ops listed=[n]) && seqM md ops g (n+1) (listed.setIfInBounds n true)
def headT (md:Region.Mode) (ops:Array Oper) (g:Nat):Nat->Nat->Array Bool->Bool
 | 0,k,listed=>tailM md ops g k listed
 | f+1,k,listed=>(Region.ready md ops listed).contains k && Region.free md ops listed k && headT md ops g f (k+1) (listed.setIfInBounds k true)
theorem headM_of_T {g:Nat}:∀ (f k:Nat) (listed:Array Bool),headT md ops g f k listed=true->headM md ops (g+1) f k listed=true
 | 0,k,listed,h=>by
  simp only [headT,tailM,Bool.and_eq_true,decide_eq_true_eq] at h;simp [headM,seqM,h.1,h.2]
 | f+1,k,listed,h=>by
  simp only [headT,Bool.and_eq_true] at h;simp only [headM,Bool.and_eq_true];exact ⟨h.1,headM_of_T f _ _ h.2⟩
def leadT (md:Region.Mode) (ops:Array Oper) (g m:Nat):Nat->Nat->Array Bool->Bool
 | 0,k,listed=>headT md ops g m k listed
 | f+1,k,listed=>((ops[k]?).map readOp).getD false && (Region.ready md ops listed).contains k && Region.free md ops listed k && leadT md ops g m f (k+1) (listed.setIfInBounds k true)
def leadP (md:Region.Mode) (ops:Array Oper) (g m q:Nat):Nat->Nat->Array Bool->Bool
 | 0,k,listed=>leadT md ops g m q k listed
 | f+1,k,listed=>((ops[k]?).map Fm).getD false && (Region.ready md ops listed).contains k && Region.free md ops listed k && leadP md ops g m q f (k+1) (listed.setIfInBounds k true)
theorem wpAnyC_lead {r s n:Nat} (om:Oper) (lt:List Oper) (hsel:Region.noSelect ops=true) (hs2:sinkS md ops s n=true) (hc2:treeB md ops n=true) (hs:sinkS md ops r (n+1)=true) (hc:treeB md ops (n+1)=true) (hn:n+1<ops.size) (hrn:r<=n)
  (hom:ops[n]?=some om) (hpl:Fm om=false) (hlt:∀ j,lt[j]?=ops[n+1+j]?) (hQ:∀ c a (d:Option Tmp) (v:Value) w,Q (.panic c) (a.put d v) w->Q (.panic c) a w) :
  ∀ (l1 l2:List Oper) (k:Nat) (listed:Array Bool) (a:Act) (w:World),(∀ j,j<(l1 ++ l2).length->(l1 ++ l2)[j]?=ops[k+j]?)->k+(l1 ++ l2).length=n->k+l1.length=s->r<=k->HeadInv md ops n listed ->
  (∀ j,j<k->listed.getD j true=true)->leadT md ops lt.length l2.length l1.length k listed=true->C w ->
  wpQuiet P ops C (fun a'=>makesC P ops C Q om lt a') (l1 ++ l2) a->wpAnyC P md ops C Q r n ((l1 ++ l2).length+(lt.length+1)) listed a w
 | [],l2,k,listed,a,w,hl,hk,hks,hrk,inv,hlk,hB,hC,h=>by
  simp only [List.nil_append] at *;have hks':k=s:=by simpa using hks
  have H:=wpAnyM_lex2 (md:=md) (g:=lt.length+1) hsel hs2 hc2 (by omega) l2 k listed a hl hk (by omega) inv hlk (headM_of_T _ _ _ (by simpa [leadT] using hB)) h
  refine wpAnyC_of_headM (g:=lt.length+1) (fun listed a' hL w' hw'=>?_) _ _ _ _ hC H
  obtain ⟨h1,h2,hg,h3⟩:=hL;simp only [seqM,Bool.and_eq_true,Bool.or_eq_true,decide_eq_true_eq,hom,Option.map_some,Option.getD_some,hpl,Bool.false_eq_true,false_and,or_false] at h2;refine ⟨fun h0=>(by rw [h2.1] at h0;cases h0),fun i hi=>?_⟩
  rw [h2.1] at hi;obtain rfl:i=n:=by simpa using hi
  obtain ⟨v,w2,hr,hC2,hw2⟩:=h3 w' hw';have hw:Region.wanted om (yielded ops a'.tmps)=true:=by simp [Region.wanted,hg]
  unfold wpOp;simp only [hom,hw,if_true];refine .inl ?_;unfold Oper.wp;rw [hr];exact ⟨fun _ _=>hC2,wpAnyC_of _ _ _ _ (fun j hj=>set_done h1 j (by omega)) (Hl hsel hQ lt (i+1) _ _ _ hlt h2.2 hw2)⟩
 | o :: l1,l2,k,listed,a,w,hl,hk,hks,hrk,inv,hlk,hB,hC,h=>by
  have h0:ops[k]?=some o:=by simpa using (hl 0 (by simp)).symm
  simp only [List.length_cons,leadT,Bool.and_eq_true] at hB;obtain ⟨⟨⟨hp,hr⟩,hf⟩,hB'⟩:=hB;have hp':readOp o=true:=by simpa [h0] using hp
  have hkn:k<n:=by simp only [List.cons_append,List.length_cons] at hk;omega
  have hr':k∈Region.ready md ops listed:=by simpa using hr
  have hl':∀ j,j<(l1 ++ l2).length->(l1 ++ l2)[j]?=ops[k+1+j]?:=fun j hj=>by
   have:=hl (j+1) (by simpa using hj)
   simpa [Nat.add_assoc,Nat.add_comm 1 j] using this
  have hk':k+1+(l1 ++ l2).length=n:=by simp only [List.cons_append,List.length_cons] at hk;omega
  have hks':k+1+l1.length=s:=by simp only [List.length_cons] at hks;omega
  have inv1:HeadInv md ops (n+1) listed:=⟨inv.size,inv.closed,fun t h1 h2=>inv.tail t (by omega) h2⟩
  have step:=fun a' hq=>wpAnyC_lead om lt hsel hs2 hc2 hs hc hn hrn hom hpl hlt hQ l1 l2 (k+1) (listed.setIfInBounds k true) a' w hl' hk' hks' (by omega) (inv.set hr' hkn) (set_done hlk) hB' hC hq
  rw [List.cons_append,List.length_cons,show (l1 ++ l2).length+1+(lt.length+1)=((l1 ++ l2).length+(lt.length+1))+1 by omega]
  rw [List.cons_append] at h;unfold wpQuiet at h
  by_cases hw:Region.wanted o (yielded ops a.tmps)=true
  ·rw [if_pos hw] at h;obtain ⟨v,hv,hK⟩:=read_still hp' h;exact wpAnyC_first h0 (Region.noSelect_spec hsel) (fun c a w=>hQ c a o.dst v w) hs hc hn (by omega) _ listed a w inv1 (fun j hj=>hlk j (by omega)) (Region.free_spec h0 hf) hr' (.inl ⟨hw,hv⟩) hC (step _ hK)
  ·rw [if_neg hw] at h;exact wpAnyC_first h0 (Region.noSelect_spec hsel) (fun c a w=>hQ c a o.dst undef w) hs hc hn (by omega) _ listed a w inv1 (fun j hj=>hlk j (by omega)) (Region.free_spec h0 hf) hr' (.inr ⟨by simpa using hw,rfl⟩) hC (step _ h)
theorem wpAnyC_leadP {r s n:Nat} (om:Oper) (lt:List Oper) (hsel:Region.noSelect ops=true) (hs2:sinkS md ops s n=true) (hc2:treeB md ops n=true) (hs:sinkS md ops r (n+1)=true) (hc:treeB md ops (n+1)=true) (hn:n+1<ops.size) (hrn:r<=n)
  (hom:ops[n]?=some om) (hpl:Fm om=false) (hlt:∀ j,lt[j]?=ops[n+1+j]?) (hQ:∀ c a (d:Option Tmp) (v:Value) w,Q (.panic c) (a.put d v) w->Q (.panic c) a w) (l1 l2:List Oper) :
  ∀ (l0:List Oper) (k:Nat) (listed:Array Bool) (a:Act) (w:World),(∀ j,j<(l0 ++ (l1 ++ l2)).length->(l0 ++ (l1 ++ l2))[j]?=ops[k+j]?)->k+(l0 ++ (l1 ++ l2)).length=n->k+l0.length+l1.length=s->k+l0.length=r->HeadInv md ops n listed ->
  (∀ j,j<k->listed.getD j true=true)->leadP md ops lt.length l2.length l1.length l0.length k listed=true->C w ->
  wpQuiet P ops C (fun a'=>makesC P ops C Q om lt a') (l0 ++ (l1 ++ l2)) a->wpAnyC P md ops C Q r n ((l0 ++ (l1 ++ l2)).length+(lt.length+1)) listed a w
 | [],k,listed,a,w,hl,hk,hks,hrk,inv,hlk,hB,hC,h=>by
  simp only [List.nil_append,List.length_nil,Nat.add_zero] at *;exact wpAnyC_lead om lt hsel hs2 hc2 hs hc hn hrn hom hpl hlt hQ l1 l2 k listed a w hl hk hks (by omega) inv hlk (by simpa [leadP] using hB) hC h
 | o :: l0,k,listed,a,w,hl,hk,hks,hrk,inv,hlk,hB,hC,h=>by
  have h0:ops[k]?=some o:=by simpa using (hl 0 (by simp)).symm
  simp only [List.length_cons,leadP,Bool.and_eq_true] at hB;obtain ⟨⟨⟨hp,hr⟩,hf⟩,hB'⟩:=hB;have hp':Fm o=true:=by simpa [h0] using hp
  have hkn:k<n:=by simp only [List.cons_append,List.length_cons] at hk;omega
  have hr':k∈Region.ready md ops listed:=by simpa using hr
  have hl':∀ j,j<(l0 ++ (l1 ++ l2)).length->(l0 ++ (l1 ++ l2))[j]?=ops[k+1+j]?:=fun j hj=>by
   have:=hl (j+1) (by simp at hj ⊢;omega)
   simpa [Nat.add_assoc,Nat.add_comm 1 j] using this
  have step:=fun a' hq=>wpAnyC_leadP om lt hsel hs2 hc2 hs hc hn hrn hom hpl hlt hQ l1 l2 l0 (k+1) (listed.setIfInBounds k true) a' w hl' (by simp only [List.cons_append,List.length_cons] at hk;omega) (by simp only [List.length_cons] at hks;omega) (by simp only [List.length_cons] at hrk;omega) (inv.set hr' hkn) (set_done hlk) hB' hC hq
  rw [List.cons_append,List.length_cons,show (l0 ++ (l1 ++ l2)).length+1+(lt.length+1)=((l0 ++ (l1 ++ l2)).length+(lt.length+1))+1 by omega]
  rw [List.cons_append] at h;unfold wpQuiet at h
  by_cases hw:Region.wanted o (yielded ops a.tmps)=true
  ·rw [if_pos hw] at h;obtain ⟨v,hv,hK⟩:=plain_quiet hp' hC h;exact wpAnyC_plain h0 (Region.noSelect_spec hsel) (fun c a w=>hQ c a o.dst v w) (by simp only [List.length_cons] at hrk;omega) _ listed a w (Region.free_spec h0 hf) hr' (.inl ⟨hw,fun w _=>hv w⟩) (step _ hK)
  ·rw [if_neg hw] at h;exact wpAnyC_plain h0 (Region.noSelect_spec hsel) (fun c a w=>hQ c a o.dst undef w) (by simp only [List.length_cons] at hrk;omega) _ listed a w (Region.free_spec h0 hf) hr' (.inr ⟨by simpa using hw,rfl⟩) (step _ h)
def leadB (md:Region.Mode) (ops:Array Oper) (r s n:Nat):Bool :=
 Region.noSelect ops && decide (n+1<ops.size) && decide (s<=n) && decide (r<=s) && sinkS md ops s n && treeB md ops n && sinkS md ops r (n+1) && treeB md ops (n+1) && !((ops[n]?).map Fm).getD true && leadP md ops (ops.size - (n+1)) (n - s) (s - r) r 0 (Array.replicate ops.size false)
theorem wp_region_lead {id:Nat} {a:Act} {w:World} {l:List Oper} (r s n:Nat) (om:Oper) (hm:P.follows .mixedOrders=true) (hB:leadB .any l.toArray r s n=true) (hom:l[n]?=some om)
  (hQ:∀ c a (d:Option Tmp) (v:Value) w,Q (.panic c) (a.put d v) w->Q (.panic c) a w) (hC:C { w with drawn:=w.drawn+1 })
  (h:wpQuiet P l.toArray C (fun a'=>makesC P l.toArray C Q om (l.drop (n+1)) a') (l.take n) a):(Code.region id l.toArray true).wp P Q a w:=by
 simp only [leadB,Bool.and_eq_true,decide_eq_true_eq] at hB;obtain ⟨⟨⟨⟨⟨⟨⟨⟨⟨hsel,hn⟩,hsn⟩,hrs⟩,hs2⟩,hc2⟩,hs⟩,hc⟩,hpl⟩,hlex⟩:=hB;have hn':n+1<l.length:=by simpa using hn
 have hom':l.toArray[n]?=some om:=by simpa using hom
 have hpl':Fm om=false:=by simpa [hom'] using hpl
 have e1:l.take n=l.take r ++ ((l.take s).drop r ++ (l.take n).drop s):=by
  have h1:=(List.take_append_drop s (l.take n)).symm;rw [List.take_take,Nat.min_eq_left hsn] at h1;have h2:=(List.take_append_drop r (l.take s)).symm;rw [List.take_take,Nat.min_eq_left hrs] at h2;rw [<- List.append_assoc,<- h2,<- h1]
 have htl:(l.take n).length=n:=by simp;omega
 have hl0:(l.take r).length=r:=by simp;omega
 have hl1:((l.take s).drop r).length=s - r:=by simp;omega
 have hl2:((l.take n).drop s).length=n - s:=by simp;omega
 have hdl:(l.drop (n+1)).length=l.toArray.size - (n+1):=by simp
 have inv0:HeadInv .any l.toArray n (Array.replicate l.toArray.size false) :=
  ⟨by simp,fun j oj _ hl=>(by rw [getD_replicate_false] at hl;cases hl),fun t _ ht=>getD_in (by simpa using ht) (getD_replicate_false _ _)⟩
 rw [e1] at h;have H:=wpAnyC_leadP (md:=.any) om (l.drop (n+1)) hsel hs2 hc2 hs hc hn (Nat.le_trans hrs hsn) hom' hpl' (fun j=>by simp [List.getElem?_drop]) hQ ((l.take s).drop r) ((l.take n).drop s) (l.take r) 0 _ a { w with drawn:=w.drawn+1 } (fun j hj=>by
  rw [<- e1] at hj ⊢;rw [htl] at hj;simp [hj]) (by rw [<- e1,htl];omega) (by rw [hl0,hl1];omega) (by rw [hl0];omega) inv0 (fun j hj=>absurd hj (by omega)) (by rw [hdl,hl2,hl1,hl0];exact hlex) hC h
 refine wp_region_any hm (wpAny_of_C (C:=C) (r:=r) (n:=n) _ _ _ _ ?_)
 rwa [<- e1,htl,hdl,show n+(l.toArray.size - (n+1)+1)=l.toArray.size by simp;omega] at H
theorem Gy {id:Nat} {a:Act} {w:World} {l:List Oper} (r s n:Nat) (om:Oper) (hm:P.follows .mixedOrders=true) (hB:leadB .any l.toArray r s n=true) (hom:l[n]?=some om)
  (hQ:∀ c a (d:Option Tmp) (v:Value) w,Q (.panic c) (a.put d v) w->Q (.panic c) a w)
  (h:wpQuiet P l.toArray (fun w'=>∃ x:Ext w,w'=x.w) (fun a'=>makesC P l.toArray (fun w'=>∃ x:Ext w,w'=x.w) Q om (l.drop (n+1)) a') (l.take n) a):(Code.region id l.toArray true).wp P Q a w :=
 wp_region_lead r s n om hm hB hom hQ (Ext.here w) h
end
end
end Go.Proofs.YteihcodicfoiaaaGreat
