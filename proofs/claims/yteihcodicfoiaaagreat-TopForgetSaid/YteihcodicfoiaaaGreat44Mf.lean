/-
  What is proved: contracts and plain facts that TopForget stands on (Told, WrL).
-/
import Derived.Test.YteihcodicfoiaaaGreat42Mf
import Derived.Test.YteihcodicfoiaaaGreatWrWMf
namespace Go.Proofs.YteihcodicfoiaaaGreat
set_option maxRecDepth 100000
set_option maxHeartbeats 4000000
open Go Go.RowKit
section
structure Hk (b:Al) (H E:List EvD):Prop where
 chk:Fw b
 few:b.Few
 right:RightOk b.fr H E
 st200:∀ e∈H ++ E,e.note.strokes.length<=200
 tell:∀ e∈E,TellOk b e.note
 h8:H.length<=8
 e10:E.length<=10
 hn:heapN H<=12
 st:∀ e∈E,e.note.strokes.length<=100
theorem SetR.reg {b:Al} {l L:List Ab} {H E:List EvD} (h:SetR b l L H E):Hk b H E:=⟨h.chk,h.few,h.right,h.st200,h.tell,h.h8,h.e10,h.hn,h.st⟩
theorem Hk.erase {b:Al} {H E:List EvD} (h:Hk b H E) (i:Nat):Hk b H (E.eraseIdx i):=by
 have hs:(E.eraseIdx i).Sublist E:=List.eraseIdx_sublist E i;have hs2:(H ++ E.eraseIdx i).Sublist (H ++ E):=(List.Sublist.refl H).append hs;exact ⟨h.chk,h.few,⟨h.right.h8,Nat.le_trans hs.length_le h.right.e400,fun e he=>h.right.ok e (hs2.subset he),(hs2.map _).nodup h.right.nodup,h.right.hk,fun e he=>h.right.ek e (hs.subset he)⟩,
  fun e he=>h.st200 e (hs2.subset he),fun e he=>h.tell e (hs.subset he),h.h8,Nat.le_trans hs.length_le h.e10,h.hn,fun e he=>h.st e (hs.subset he)⟩
def hardE (e:EvD):Int×Int:=(e.note.hlo,e.note.hhi)
def stS (b:Al) (st:Int):List (Int×Int):=if st=0 then b.s0 else b.s1
theorem Hk.hard {b:Al} {H E:List EvD} (h:Hk b H E):∀ e∈H,1<=e.note.hlo/\e.note.hlo<=e.note.hhi/\e.note.hhi<=255:=by
 intro e he;have hk:=h.right.hk e he;have hf:=(h.right.ok e (List.mem_append_left _ he)).2.1;unfold Ar at hf;simp only [Bool.and_eq_true] at hf;have ho:=hf.1;unfold ok1 at ho;rw [if_neg (by omega),if_neg (by omega),hk] at ho
 simp [Dd,Cf] at ho;omega
theorem Hk.prod {b:Al} {H E:List EvD} (h:Hk b H E):Ew (H.map hardE)<=12:=by
 have key:∀ (l:List EvD),(∀ e∈l,1<=e.note.hlo/\e.note.hlo<=e.note.hhi/\e.note.hhi<=255)->∀ n:Int,l.foldl (fun n e=>if 1<=e.note.hlo/\e.note.hhi<=255/\e.note.hlo<=e.note.hhi then n*(e.note.hhi - e.note.hlo+1) else n) n=n*Ew (l.map hardE):=by
  intro l
  induction l with
  | nil=>intro _ n;simp [Ew]
  | cons e l ih =>
   intro hl n;have he:=hl e (List.mem_cons_self ..);rw [List.foldl_cons,if_pos ⟨he.1,he.2.2,he.2.1⟩,ih (fun x hx=>hl x (List.mem_cons_of_mem _ hx))]
   simp only [List.map_cons,Ew,hardE];rw [Int.mul_assoc]
 have:=key H h.hard 1;have h2:=h.hn;unfold heapN at h2;rw [this] at h2;omega
theorem eachB_of {l:List (Int×Int)} {n lo hi:Int} (h:eachB l n lo hi=true):(l.length:Int)=n/\∀ x∈l,lo<=x.1/\x.1<=x.2/\x.2<=hi:=by
 unfold eachB at h;simp only [Bool.and_eq_true,decide_eq_true_eq,Bool.not_eq_true'] at h;refine ⟨h.1,fun x hx=>?_⟩
 obtain ⟨k,hk,rfl⟩:=List.getElem_of_mem hx;have h2:=h.2
 by_cases hs:Cf (l.getD k (0,0)).1 (l.getD k (0,0)).2 lo hi=true
 ·rw [Aj _ _ hk] at hs;simp [Cf] at hs;omega
 ·have:=Fu.1 h2 k hk;simp at this;exact absurd this hs
theorem Hk.start {b:Al} (h:Fw b) (st:Int):((stS b st).length:Int)=b.bed.kinds.length/\∀ x∈stS b st,-100000<=x.1/\x.1<=x.2/\x.2<=100000:=by
 have hr:=h.2;unfold restB at hr;simp only [Bool.and_eq_true] at hr;unfold stS
 split
 ·have h1:=hr.1.1.1.2;unfold restS at h1;simp only [Bool.and_eq_true] at h1;exact eachB_of h1.1
 ·have h1:=hr.1.1.2;unfold restT at h1;simp only [Bool.and_eq_true] at h1;exact eachB_of h1.1
theorem Hk.size {b:Al} (h:Fw b):(b.bed.kinds.length:Int)=b.bed.rings*b.bed.sec/\1<=b.bed.rings/\1<=b.bed.sec:=by
 have hb:=(faces_of h.1.1).1;simp only [Fac.ok,Bool.and_eq_true,inB,decide_eq_true_eq,beq_iff_eq,List.all_eq_true] at hb;exact ⟨hb.1.2,hb.1.1.1.2.1,by omega⟩
theorem Hk.deep {b:Al} (h:Fw b):1<=b.dlo/\b.dlo<=b.dhi/\b.dhi<=100000:=by
 have hr:=h.2;unfold restB restC at hr;simp only [Bool.and_eq_true] at hr;have:=hr.1.2.1.1.1.1;simp [Cf] at this;omega
theorem Hk.cells {b:Al} {H E:List EvD} (h:Hk b H E):b.flr.R*b.flr.S=b.bed.kinds.length/\1<=b.bed.kinds.length/\b.bed.kinds.length<=24/\1<=b.bed.rings/\1<=b.bed.sec:=by
 obtain ⟨h1,h2,h3⟩:=Hk.size h.chk;obtain ⟨h4,_,_⟩:=RS_of (fr_ok h.chk) h.few;have h5:=h.few.bk;have h6:b.bed.rings*b.bed.sec>=1:=by
  have:=Int.mul_le_mul h2 h3 (by omega) (by omega)
  omega
 refine ⟨by omega,by omega,h5,h2,h3⟩
theorem bump_get (l:List Int) (i j:Nat):(bump l i).getD j 0<=l.getD j 0+(if i=j then 1 else 0):=by
 unfold bump;rw [List.getD_eq_getElem?_getD,List.getD_eq_getElem?_getD,List.getElem?_set]
 by_cases h:i=j
 ·subst h
  by_cases h2:i<l.length
  ·simp [h2]
  ·simp [h2]
 ·simp [h]
theorem bumps_get (l:List Int) (s j:Nat):∀ n,(bumps l s n).getD j 0<=l.getD j 0+(if s<=j/\j<s+n then 1 else 0)
 | 0=>by rw [bumps];split<;>omega
 | n+1=>by
  have h1:=bump_get (bumps l s n) (s+n) j;have h2:=bumps_get l s j n;rw [bumps]
  split at h1<;>split at h2<;>split<;>omega
theorem Kn.coveredT (wide off:Nat):∀ (ss:List Int) {M:Int} {l:List Int},Kn M l->0<=M->Kn (M+ss.length) (YteihcodicfoiaaaGreat.covered wide off l ss)
 | [],M,l,h,_=>by simpa [YteihcodicfoiaaaGreat.covered] using h
 | s :: ss,M,l,h,hM=>by
  have h0:=h.bumps hM (off+s.toNat) wide;have h1:Kn (M+1) (YteihcodicfoiaaaGreat.bumps l (off+s.toNat) wide):=fun x hx=>by
   refine ⟨(h0 x hx).1,?_⟩;obtain ⟨k,hk,rfl⟩:=List.getElem_of_mem hx;have h2:=bumps_get l (off+s.toNat) k wide;have h3:=h.get hM k;rw [Aj _ _ hk] at h2
   split at h2<;>omega
  have:=Kn.coveredT wide off ss h1 (by omega)
  have e:M+((s :: ss).length:Int)=M+1+ss.length:=by simp;omega
  rw [e];exact this
theorem heapF_lt (H:List EvD) (a c:Int):heapF H a c<0\/heapF H a c<H.length:=by
 unfold heapF Cs
 split
 ·rename_i i hi;have:=List.mem_of_find?_eq_some hi;rw [List.mem_range] at this;exact .inr (by omega)
 ·exact .inl (by omega)
structure ToldI (b:Al) (H:List EvD) (n:Nat) (s:List Bh×List Da):Prop where
 sp:∀ x∈s.1,StepOk n H.length x
 rd:∀ r∈s.2,ReadOk n s.1.length r
theorem ToldI.step {b:Al} {H E:List EvD} (h:Hk b H E) {ixF:Flr->Nat->Nat->Nat->Nat} {st:Int} {s:List Bh×List Da} (hs:ToldI b H b.bed.kinds.length s) {e:EvD} (he:e∈E) :
  ToldI b H b.bed.kinds.length (Fh b st (cntOf b.flr ixF) H s e.note):=by
 obtain ⟨c1,c2,c3,c4,c5⟩:=h.cells;have hlen:(cntOf b.flr ixF).length=b.bed.kinds.length:=by rw [cntOf_len,c1]
 have hup:=cntOf_upto (fr_ok h.chk) h.few ixF;have ht:=h.tell e he;have hst:=h.st e he;obtain ⟨_,hf,_⟩:=h.right.ok e (List.mem_append_right _ he);have hek:=(h.right.ek e he).2;have hd:=Hk.deep h.chk;have hrd:∀ (k:List Bh),∀ r∈s.2,ReadOk b.bed.kinds.length (s.1 ++ k).length r:=fun k r hr=>by
  obtain ⟨a1,a2,a3,a4,a5⟩:=hs.rd r hr;exact ⟨⟨a1.1,by simp;omega⟩,a2,a3,a4,a5⟩
 unfold Fh
 split
 ·exact hs
 ·split
  ·rename_i _ hk;refine ⟨fun x hx=>?_,hrd _⟩
   rcases List.mem_append.1 hx with hx | hx
   ·exact hs.sp x hx
   ·rw [List.mem_singleton.1 hx];have hE:=hek hk;have htn:=ht.turns hk;unfold Hg at hE;have hF:¬ heapF H e.note.rh e.note.rn<0:=fun hc=>by rw [if_pos hc] at hE;omega
    have hL:=heapF_lt H e.note.rh e.note.rn;have hI:Ki H e.note.rh e.note.rn=heapF H e.note.rh e.note.rn:=by unfold Ki;rw [if_neg hF]
    refine ⟨by simp [hlen],.inl ⟨rfl,⟨by simp only [hI];omega,?_⟩,⟨rfl,rfl⟩,fun t ht'=>?_⟩⟩
    ·simp only [hI];exact hL.resolve_left hF
    ·obtain ⟨y,hy,rfl⟩:=List.mem_map.1 ht';have h1:=hup y hy;have h2:=Int.mul_le_mul htn.2 h1.2 h1.1 (by omega)
     have h3:=Int.mul_nonneg (show (0:Int)<=e.note.turns by omega) h1.1
     omega
  ·split
   ·rename_i _ _ hk;refine ⟨fun x hx=>?_,hrd _⟩
    rcases List.mem_append.1 hx with hx | hx
    ·exact hs.sp x hx
    ·rw [List.mem_singleton.1 hx];refine ⟨by simp [covered_len,hlen],.inr ⟨rfl,rfl,⟨by simp;omega,by simp;omega,by simp;omega⟩,fun t ht'=>?_⟩⟩
     have hz:Kn 0 (List.replicate (cntOf b.flr ixF).length 0):=fun x hx=>by rw [List.eq_of_mem_replicate hx];omega
     have:=hz.coveredT b.wide.toNat (e.note.ring*b.bed.sec).toNat e.note.strokes (by omega) t ht'
     omega
   ·rename_i hns hk2 hk4;refine ⟨hs.sp,fun r hr=>?_⟩
    rcases List.mem_append.1 hr with hr | hr
    ·exact hs.rd r hr
    ·rw [List.mem_singleton.1 hr];have hk3:e.note.kind=3:=by have:=ht.kind;omega
     unfold Ar at hf;simp only [Bool.and_eq_true] at hf;have ho:=hf.1;unfold ok1 at ho;rw [if_neg (by omega),if_neg (by omega),hk3] at ho
     simp [Dd,Cf,inB] at ho;have e1:b.fr.rings*b.fr.sec=b.bed.kinds.length:=by rw [(Hk.size h.chk).1];rfl
     rw [e1] at ho;exact ⟨⟨by simp,by simp⟩,by simp;omega,by simp;omega,by simp;omega,by simp;omega⟩
theorem Hk.ok {b:Al} {H E:List EvD} (h:Hk b H E) {ixF:Flr->Nat->Nat->Nat->Nat} {st:Int} {D:Ap} (h1:D.st=stS b st) (h2:D.hp=H.map hardE) (h3:(D.S.map Bh.plain,D.R)=Hr b st (cntOf b.flr ixF) H E):D.Ok:=by
 have key:∀ (l:List EvD),(∀ e∈l,e∈E)->∀ s,ToldI b H b.bed.kinds.length s->ToldI b H b.bed.kinds.length (l.foldl (fun s e=>Fh b st (cntOf b.flr ixF) H s e.note) s):=by
  intro l
  induction l with
  | nil=>exact fun _ s hs=>hs
  | cons e l ih=>exact fun hl s hs=>ih (fun x hx=>hl x (List.mem_cons_of_mem _ hx)) _ (hs.step h (hl e (List.mem_cons_self ..)))
 have hT:=key E (fun _ he=>he) ([],[]) ⟨fun _ hx=>(by cases hx),fun _ hx=>(by cases hx)⟩
 have hl:=toldF_len b st (cntOf b.flr ixF) H E;change ToldI b H b.bed.kinds.length (Hr b st (cntOf b.flr ixF) H E) at hT;rw [<- h3] at hT hl;obtain ⟨c1,c2,c3,c4,c5⟩:=h.cells;obtain ⟨s1,s2⟩:=Hk.start h.chk st;have h10:=h.e10;have h8:=h.h8;simp only [List.length_map] at hl;have en:D.st.length=b.bed.kinds.length:=by rw [h1];omega
 refine ⟨by omega,by rw [h2];simpa using h8,by omega,by omega,by rw [h1];exact s2,fun x hx=>?_,fun s hs=>?_,fun r hr=>?_,by rw [h2];exact h.prod⟩
 ·rw [h2] at hx;obtain ⟨e,he,rfl⟩:=List.mem_map.1 hx;have:=h.hard e he;exact this
 ·have:=hT.sp s.plain (List.mem_map.2 ⟨s,hs,rfl⟩);rw [en,h2,List.length_map];exact ⟨this.len,this.kind⟩
 ·have:=hT.rd r hr;simp only [List.length_map] at this;rw [en];exact this
end
section
theorem Worlds_bad (D:Ap) (w:World) (hA:D.At w) (hD:D.Ok) (hg:D.good=false) :
  Calls Tryz.prog 92 #[.agg D.arr] w fun e w'=>e=.returned (.tuple #[.slice none 0 0,.int .i64 40])/\Below w.heap.size w w':=by
 obtain ⟨W,hW⟩:∃ W,w.alloc (.cells D.arr 55)=W:=⟨_,rfl⟩;have hbW:Below w.heap.size w W:=by rw [<- hW];exact Ba
 have X:Bk W w.heap.size 55 D.arr:=by rw [<- hW];exact Aa rfl
 have HA:=Hd (asked_any D true W (hA.below hbW) hD);rw [show askedE D true=40 by unfold askedE;rw [hg];rfl] at HA
 have HW:=Hd hW;have HX:=Hd (Ai X hbW);unfold Ap.arr at *;have x0:=X.cell 0;have x1:=X.cell 1;have x2:=X.cell 2;have x3:=X.cell 3;have xl:=X.lt;simp at x0 x1 x2 x3;clear hW X hbW hA hD hg;go_enter Tryz.func92,Tryz.ntmps92;go_upto_region 1 with fail
 rw [HW.out];clear HW;go_wp2_with (go_at_call 93;refine HA.out.mono ?_;rintro e w1 ⟨rfl,hb1⟩);exact bodyPost_ret (v:=.tuple #[.slice none 0 0,.int .i64 40]) (by simp [results,Tryz.results92,go_sem]) rfl ⟨rfl,HX.out.2.trans (hb1.mono HX.out.2.size)⟩
def WorldsQ (D:Ap) (w:World) (e:Ending) (V:World):Prop :=
 Below w.heap.size w V/\∃ (ws:List Eg) (A:Option Addr) (c:Nat),e=.returned (.tuple #[.slice A ws.length c,.int .i64 0])/\Ad V A (ws.map Eg.val)/\(∀ x∈ws,IntR V x.A x.l)/\ws.map Eg.l=Dj D.hp
theorem Worlds_any (D:Ap) (w:World) (hA:D.At w) (hD:D.Ok) (hg:D.good=true):Calls Tryz.prog 92 #[.agg D.arr] w (WorldsQ D w):=by
 obtain ⟨W,hW⟩:∃ W,w.alloc (.cells D.arr 55)=W:=⟨_,rfl⟩;have hbW:Below w.heap.size w W:=by rw [<- hW];exact Ba
 have X:Bk W w.heap.size 55 D.arr:=by rw [<- hW];exact Aa rfl
 have HA:=Hd (asked_any D true W (hA.below hbW) hD);rw [show askedE D true=0 by unfold askedE;rw [hg];rfl] at HA
 have HWO:=Hd (fun (V:World) (h:Below w.heap.size w V)=>worlds_any D V (hA.below h) hD)
 have HW:=Hd hW;have HX:=Hd (Ai X hbW);unfold Ap.arr at HA HWO HW HX X hW;have x0:=X.cell 0;have x1:=X.cell 1;have x2:=X.cell 2;have x3:=X.cell 3;have xl:=X.lt;simp at x0 x1 x2 x3;clear hW X hbW hA hD hg;unfold Ap.arr;go_enter Tryz.func92,Tryz.ntmps92;go_upto_region 1 with fail
 rw [HW.out];clear HW;go_upto_region 4 with (go_at_call 93;refine HA.out.mono ?_;rintro e w1 ⟨rfl,hb1⟩)
 have HX1:=Hd (Ai (HX.out.1.keep hb1) (HX.out.2.trans (hb1.mono HX.out.2.size)));clear x0 x1 x2 x3 xl hb1 HA HX;have x0:=HX1.out.1.cell 0;have x1:=HX1.out.1.cell 1;have x2:=HX1.out.1.cell 2;have x3:=HX1.out.1.cell 3;have xl:=HX1.out.1.lt;simp at x0 x1 x2 x3;go_wp2_with (go_at_call 94;refine (HWO.out _ HX1.out.2).mono ?_;rintro e w2 ⟨hb2,ws,A5,c5,rfl,h5⟩;have H5:=Hd (Ai hb2 h5);clear hb2 h5);refine bodyPost_ret (v:=.tuple #[.slice A5 ws.length c5,.int .i64 0]) (by simp [results,Tryz.results92,go_sem]) rfl ?_
 exact ⟨HX1.out.2.trans (H5.out.1.mono HX1.out.2.size),ws,A5,c5,rfl,H5.out.2⟩
theorem large_any (D:Ap) (w:World) (hA:D.At w) (hD:D.Ok) :
  Calls Tryz.prog 47 #[.agg D.arr] w fun e w'=>e=.returned (.bool (!D.good))/\Below w.heap.size w w':=by
 obtain ⟨W,hW⟩:∃ W,w.alloc (.cells D.arr 55)=W:=⟨_,rfl⟩;have hbW:Below w.heap.size w W:=by rw [<- hW];exact Ba
 have X:Bk W w.heap.size 55 D.arr:=by rw [<- hW];exact Aa rfl
 have HX:=Hd (Ai X hbW);have HW:=Hd hW;have hn:=hD.n;have hwl:=Ks hD.hp;have hwd:=hD.wd;cases hg:D.good with
 | false =>
  have HB:=Hd (Worlds_bad D W (hA.below hbW) hD hg);unfold Ap.arr at HB HX HW X hW;have x0:=X.cell 0;have x1:=X.cell 1;have x2:=X.cell 2;have x3:=X.cell 3;have xl:=X.lt;simp at x0 x1 x2 x3;clear hW X hbW hA hD hg;unfold Ap.arr;go_enter Tryz.func47,Tryz.ntmps47;go_upto_region 1 with fail
  rw [HW.out];clear HW;go_wp2_with (go_at_call 92;refine HB.out.mono ?_;rintro e w1 ⟨rfl,hb1⟩);go_ret;exact ⟨rfl,HX.out.2.trans (hb1.mono HX.out.2.size)⟩
 | true =>
  have HB:=Hd (Worlds_any D W (hA.below hbW) hD hg);unfold Ap.arr at HB HX HW X hW;have x0:=X.cell 0;have x1:=X.cell 1;have x2:=X.cell 2;have x3:=X.cell 3;have xl:=X.lt;simp at x0 x1 x2 x3;clear hW X hbW hA hD hg;unfold Ap.arr;go_enter Tryz.func47,Tryz.ntmps47;go_upto_region 1 with fail
  rw [HW.out];clear HW;go_upto_region 2 with (go_at_call 92;refine HB.out.mono ?_;rintro e w1 ⟨hb1,ws,A5,c5,rfl,h5,h6,h7⟩)
  have hlw:(ws.length:Int)<=12:=by
   have:=congrArg List.length h7;simp only [List.length_map] at this;omega
  have hmul:0<=(D.st.length:Int)*ws.length/\(D.st.length:Int)*ws.length<=24*12:=⟨Int.mul_nonneg (by omega) (by omega),Int.mul_le_mul (by omega) hlw (by omega) (by omega)⟩
  have hx1:=HX.out.1.keep hb1;have hx2:=HX.out.2.trans (hb1.mono HX.out.2.size);have HE:=Hd hx2;clear x0 x1 x2 x3 xl hb1 HX h5 h6 h7 hx2;have x0:=hx1.cell 0;have xl:=hx1.lt;simp at x0;clear hx1;have hno:¬ (D.st.length:Int)*ws.length > 4096:=by omega
  go_wp2_with fail;go_ret;exact ⟨Af (by simp),HE.out⟩
end
end Go.Proofs.YteihcodicfoiaaaGreat
