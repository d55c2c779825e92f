/-
  What is proved: contracts and plain facts that TopForget stands on (Args0, ArgsN, ArgsB, ArgsC).
-/
import Derived.Test.YteihcodicfoiaaaGreatSetFMf
import Derived.Lib.SmallJoins
import Derived.Deep.Slices
import Derived.Deep.Fields
import Derived.ChangeSame
import Derived.OpenShut
namespace Go.Proofs.YteihcodicfoiaaaGreat
set_option maxRecDepth 100000
open Go Go.RowKit
section
open Go.ChangeShapes Go.WideShapes Go.RowKit Go.Joins Go.Deep
theorem list_build {α:Type} (n:Nat) (p:Nat->α->Prop) (h:∀ i,i<n->∃ m,p i m):∃ L:List α,L.length=n/\∀ i (hi:i<L.length),p i L[i]:=by
 induction n with
 | zero=>exact ⟨[],rfl,fun i hi=>by simp at hi⟩
 | succ n ih =>
  obtain ⟨L,hl,hp⟩:=ih fun i hi=>h i (by omega)
  obtain ⟨m,hm⟩:=h n (by omega)
  refine ⟨L ++ [m],by simp [hl],fun i hi=>?_⟩
  rcases Nat.lt_or_ge i n with h1 | h1
  ·rw [List.getElem_append_left (by omega)]
   exact hp i (by omega)
  ·simp at hi;have:i=n:=by omega
   subst this;rw [List.getElem_append_right (by omega)]
   simpa [hl] using hm
section
variable {H:Type} {enc:TypeId×Value->H} {W:World}
theorem Ji {α:Type} {t e:TypeId} {k:Nat} (R:α->Prop) (f:α->List Value) (hk:∀ x,(f x).length=k) (hk0:0<k) (ht:Tryz.prog.underlying t=some (.slice e)) (hC:Tryz.prog.cellsOf e=k)
  (hdec:∀ n cs x,DataW.trod enc Tryz.prog W 0 (fun _=>true) true n e cs=some x->∃ a,cs=f a/\R a) {n:Nat} {cs:List Value} {x:DataW H×List MemPlace} (h:DataW.trod enc Tryz.prog W 0 (fun _=>true) true n t cs=some x) :
  ∃ (A:Option Addr) (c:Nat) (L:List α),cs=[.slice A L.length c]/\Ad W A (L.flatMap f)/\(∀ i (hi:i<L.length),R L[i])/\L.length<=c/\c<=9223372036854775807:=by
 rcases open_slice ht h with h1 | ⟨a,len,cap,m,n,D,Pl,h1,_,hl,hm,hmm,_,hi⟩
 ·exact ⟨none,0,[],h1.1,fun h=>by simp at h,fun i hi=>by simp at hi,by simp,by omega⟩
 ·simp only [if_true] at hmm;subst hmm;rw [hC] at hi;obtain ⟨L,hL,hp⟩:=list_build len (fun i q=>R q/\∀ j,j<k->W.cell? (a.add (i*k+j))=(f q)[j]?) (fun i hi'=>by
   obtain ⟨cs',h2,h3⟩:=hi i (by omega)
   obtain ⟨q,rfl,hq⟩:=hdec _ _ _ h3;obtain ⟨_,_,h4⟩:=World.cells?_some h2;refine ⟨q,hq,fun j hj=>?_⟩
   have h5:=h4 j hj
   rwa [Go.Deep.add_add] at h5)
  subst hL;refine ⟨some a,m,L,h1,fun h0=>?_,fun i hi=>(hp i hi).1,hl,hm⟩
  rw [Ci f k hk] at h0;have hL0:0<L.length:=by
   rcases Nat.eq_zero_or_pos L.length with h | h
   ·rw [h] at h0;omega
   ·exact h
  have q0:=(hp 0 hL0).2 0 hk0;obtain ⟨v0,hv0⟩:∃ v0,(f (L[0]'hL0))[0]?=some v0:=⟨_,List.getElem?_eq_getElem (by rw [hk];exact hk0)⟩
  rw [hv0,Nat.zero_mul] at q0;have hlt:=World.block_lt_of_cell? W _ q0;have hsp:a.spot=none:=by
   have q1:W.cell? a=some v0:=q0;cases hs:a.spot with
   | none=>rfl
   | some k =>
    unfold World.cell? at q1;rw [hs] at q1
    split at q1<;>simp at q1
  obtain ⟨b,off,sp⟩:=a;simp only at hsp;subst hsp;refine ⟨b,off,rfl,hlt,fun j u hu=>?_⟩
  have hj:=(List.getElem?_eq_some_iff.1 hu).1;rw [Ci f k hk] at hj;have hi2:j / k<L.length:=Nat.div_lt_of_lt_mul (by rw [Nat.mul_comm];exact hj)
  have hr:j % k<k:=Nat.mod_lt _ hk0;have e:j / k*k+j % k=j:=by rw [Nat.mul_comm];exact Nat.div_add_mod j k
  have hg:=Cw f k hk hk0 L (j / k) (j % k) hi2 hr;have h5:=(hp (j / k) hi2).2 (j % k) hr;rw [e] at hg h5;rw [De] at h5;rw [h5,<- hg];exact hu
theorem Db {n:Nat} {cs:List Value} {x:DataW H×List MemPlace} (h:DataW.trod enc Tryz.prog W 0 (fun _=>true) true n 3 cs=some x):∃ a:Int,cs=[.int .i64 a]:=by
 obtain ⟨a,e,_,_⟩:=DataW.trod_int Tryz.underlying3 h;exact ⟨a,e⟩
theorem rd_bool {n:Nat} {cs:List Value} {x:DataW H×List MemPlace} (h:DataW.trod enc Tryz.prog W 0 (fun _=>true) true n 4 cs=some x):∃ a:Bool,cs=[.bool a]:=by
 obtain ⟨a,e,_⟩:=DataW.trod_bool Tryz.underlying4 h;exact ⟨a,e⟩
theorem rd_span {n:Nat} {cs:List Value} {x:DataW H×List MemPlace} (h:DataW.trod enc Tryz.prog W 0 (fun _=>true) true n 29 cs=some x):∃ p:Int×Int,cs=[.int .i64 p.1,.int .i64 p.2]:=by
 obtain ⟨xs,n',_,_,hl,hxl,hf⟩:=DataW.trod_struct Tryz.underlying29 h;have hl2:cs.length=2:=hl.trans (by kernel_rfl)
 have hx2:xs.length=2:=hxl
 match cs,hl2,xs,hx2 with
 | [c0,c1],_,[y0,y1],_ =>
  have h0:DataW.trod enc Tryz.prog W 0 (fun _=>true) true n' 3 (([c0,c1].drop 0).take (Tryz.prog.cellsOf 3))=some y0:=hf 0 _ rfl
  have h1:DataW.trod enc Tryz.prog W 0 (fun _=>true) true n' 3 (([c0,c1].drop 1).take (Tryz.prog.cellsOf 3))=some y1:=hf 1 _ rfl
  rw [show Tryz.prog.cellsOf 3=1 by kernel_rfl] at h0 h1
  obtain ⟨a0,e0⟩:=Db h0;obtain ⟨a1,e1⟩:=Db h1;simp at e0 e1;subst e0 e1;exact ⟨(a0,a1),rfl⟩
theorem rd_spans {n:Nat} {cs:List Value} {x:DataW H×List MemPlace} (h:DataW.trod enc Tryz.prog W 0 (fun _=>true) true n 30 cs=some x) :
  ∃ (A:Option Addr) (c:Nat) (L:List (Int×Int)),cs=[.slice A L.length c]/\Ad W A (Am L)/\L.length<=c/\c<=9223372036854775807:=by
 obtain ⟨A,c,L,h1,h2,_,h3,h4⟩:=Ji (k:=2) (fun _=>True) (fun p:Int×Int=>[.int .i64 p.1,.int .i64 p.2]) (fun _=>rfl) (by decide) Tryz.underlying30 (by kernel_rfl) (fun n cs x h=>by obtain ⟨p,e⟩:=rd_span h;exact ⟨p,e,trivial⟩) h
 exact ⟨A,c,L,h1,h2,h3,h4⟩
theorem rd_ints {n:Nat} {cs:List Value} {x:DataW H×List MemPlace} (h:DataW.trod enc Tryz.prog W 0 (fun _=>true) true n 22 cs=some x) :
  ∃ (A:Option Addr) (c:Nat) (L:List Int),cs=[.slice A L.length c]/\Ad W A (Ac L)/\L.length<=c/\c<=9223372036854775807:=by
 obtain ⟨A,c,L,h1,h2,_,h3,h4⟩:=Ji (k:=1) (fun _=>True) (fun p:Int=>[.int .i64 p]) (fun _=>rfl) (by decide) Tryz.underlying22 (by kernel_rfl) (fun n cs x h=>by obtain ⟨p,e⟩:=Db h;exact ⟨p,e,trivial⟩) h
 refine ⟨A,c,L,h1,?_,h3,h4⟩;have e:∀ L:List Int,L.flatMap (fun p:Int=>[Value.int .i64 p])=Ac L:=fun L=>by
  induction L with
  | nil=>rfl
  | cons x l ih=>rw [List.flatMap_cons,ih];rfl
 rw [<- e];exact h2
end
end
section
open Go.ChangeShapes Go.WideShapes Go.RowKit Go.Joins Go.Deep
section
variable {H:Type} {enc:TypeId×Value->H} {W:World}
theorem rd_name {n:Nat} {cs:List Value} {x:DataW H×List MemPlace} (h:DataW.trod enc Tryz.prog W 0 (fun _=>true) true n 66 cs=some x):∃ p:Int×Int,cs=[.int .i64 p.1,.int .i64 p.2]:=by
 obtain ⟨xs,n',_,_,hl,hxl,hf⟩:=DataW.trod_struct Tryz.underlying66 h;have hl2:cs.length=2:=hl.trans (by kernel_rfl)
 have hx2:xs.length=2:=hxl
 match cs,hl2,xs,hx2 with
 | [c0,c1],_,[y0,y1],_ =>
  have h0:DataW.trod enc Tryz.prog W 0 (fun _=>true) true n' 3 (([c0,c1].drop 0).take (Tryz.prog.cellsOf 3))=some y0:=hf 0 _ rfl
  have h1:DataW.trod enc Tryz.prog W 0 (fun _=>true) true n' 3 (([c0,c1].drop 1).take (Tryz.prog.cellsOf 3))=some y1:=hf 1 _ rfl
  rw [show Tryz.prog.cellsOf 3=1 by kernel_rfl] at h0
  rw [show Tryz.prog.cellsOf 3=1 by kernel_rfl] at h1
  obtain ⟨a0,e0⟩:=Db h0;obtain ⟨a1,e1⟩:=Db h1;simp at e0 e1;subst e0;subst e1;exact ⟨(a0,a1),rfl⟩
theorem rd_point {n:Nat} {cs:List Value} {x:DataW H×List MemPlace} (h:DataW.trod enc Tryz.prog W 0 (fun _=>true) true n 152 cs=some x):∃ p:Int×Int,cs=[.int .i64 p.1,.int .i64 p.2]:=by
 obtain ⟨xs,n',_,_,hl,hxl,hf⟩:=DataW.trod_struct Tryz.underlying152 h;have hl2:cs.length=2:=hl.trans (by kernel_rfl)
 have hx2:xs.length=2:=hxl
 match cs,hl2,xs,hx2 with
 | [c0,c1],_,[y0,y1],_ =>
  have h0:DataW.trod enc Tryz.prog W 0 (fun _=>true) true n' 3 (([c0,c1].drop 0).take (Tryz.prog.cellsOf 3))=some y0:=hf 0 _ rfl
  have h1:DataW.trod enc Tryz.prog W 0 (fun _=>true) true n' 3 (([c0,c1].drop 1).take (Tryz.prog.cellsOf 3))=some y1:=hf 1 _ rfl
  rw [show Tryz.prog.cellsOf 3=1 by kernel_rfl] at h0
  rw [show Tryz.prog.cellsOf 3=1 by kernel_rfl] at h1
  obtain ⟨a0,e0⟩:=Db h0;obtain ⟨a1,e1⟩:=Db h1;simp at e0 e1;subst e0;subst e1;exact ⟨(a0,a1),rfl⟩
theorem rd_note {n:Nat} {cs:List Value} {x:DataW H×List MemPlace} (h:DataW.trod enc Tryz.prog W 0 (fun _=>true) true n 68 cs=some x):∃ m:Ab,cs=m.arr.toList/\m.At W/\m.strokes.length<=9223372036854775807:=by
 obtain ⟨xs,n',_,_,hl,hxl,hf⟩:=DataW.trod_struct Tryz.underlying68 h;have hl2:cs.length=19:=hl.trans (by kernel_rfl)
 have hx2:xs.length=16:=hxl
 match cs,hl2,xs,hx2 with
 | [c0,c1,c2,c3,c4,c5,c6,c7,c8,c9,c10,c11,c12,c13,c14,c15,c16,c17,c18],_,[y0,y1,y2,y3,y4,y5,y6,y7,y8,y9,y10,y11,y12,y13,y14,y15],_ =>
  have h0:DataW.trod enc Tryz.prog W 0 (fun _=>true) true n' 3 (([c0,c1,c2,c3,c4,c5,c6,c7,c8,c9,c10,c11,c12,c13,c14,c15,c16,c17,c18].drop 0).take (Tryz.prog.cellsOf 3))=some y0:=hf 0 _ rfl
  have h1:DataW.trod enc Tryz.prog W 0 (fun _=>true) true n' 3 (([c0,c1,c2,c3,c4,c5,c6,c7,c8,c9,c10,c11,c12,c13,c14,c15,c16,c17,c18].drop 1).take (Tryz.prog.cellsOf 3))=some y1:=hf 1 _ rfl
  have h2:DataW.trod enc Tryz.prog W 0 (fun _=>true) true n' 3 (([c0,c1,c2,c3,c4,c5,c6,c7,c8,c9,c10,c11,c12,c13,c14,c15,c16,c17,c18].drop 2).take (Tryz.prog.cellsOf 3))=some y2:=hf 2 _ rfl
  have h3:DataW.trod enc Tryz.prog W 0 (fun _=>true) true n' 3 (([c0,c1,c2,c3,c4,c5,c6,c7,c8,c9,c10,c11,c12,c13,c14,c15,c16,c17,c18].drop 3).take (Tryz.prog.cellsOf 3))=some y3:=hf 3 _ rfl
  have h4:DataW.trod enc Tryz.prog W 0 (fun _=>true) true n' 3 (([c0,c1,c2,c3,c4,c5,c6,c7,c8,c9,c10,c11,c12,c13,c14,c15,c16,c17,c18].drop 4).take (Tryz.prog.cellsOf 3))=some y4:=hf 4 _ rfl
  have h5:DataW.trod enc Tryz.prog W 0 (fun _=>true) true n' 3 (([c0,c1,c2,c3,c4,c5,c6,c7,c8,c9,c10,c11,c12,c13,c14,c15,c16,c17,c18].drop 5).take (Tryz.prog.cellsOf 3))=some y5:=hf 5 _ rfl
  have h6:DataW.trod enc Tryz.prog W 0 (fun _=>true) true n' 3 (([c0,c1,c2,c3,c4,c5,c6,c7,c8,c9,c10,c11,c12,c13,c14,c15,c16,c17,c18].drop 6).take (Tryz.prog.cellsOf 3))=some y6:=hf 6 _ rfl
  have h7:DataW.trod enc Tryz.prog W 0 (fun _=>true) true n' 3 (([c0,c1,c2,c3,c4,c5,c6,c7,c8,c9,c10,c11,c12,c13,c14,c15,c16,c17,c18].drop 7).take (Tryz.prog.cellsOf 3))=some y7:=hf 7 _ rfl
  have h8:DataW.trod enc Tryz.prog W 0 (fun _=>true) true n' 29 (([c0,c1,c2,c3,c4,c5,c6,c7,c8,c9,c10,c11,c12,c13,c14,c15,c16,c17,c18].drop 8).take (Tryz.prog.cellsOf 29))=some y8:=hf 8 _ rfl
  have h9:DataW.trod enc Tryz.prog W 0 (fun _=>true) true n' 29 (([c0,c1,c2,c3,c4,c5,c6,c7,c8,c9,c10,c11,c12,c13,c14,c15,c16,c17,c18].drop 10).take (Tryz.prog.cellsOf 29))=some y9:=hf 9 _ rfl
  have h10:DataW.trod enc Tryz.prog W 0 (fun _=>true) true n' 3 (([c0,c1,c2,c3,c4,c5,c6,c7,c8,c9,c10,c11,c12,c13,c14,c15,c16,c17,c18].drop 12).take (Tryz.prog.cellsOf 3))=some y10:=hf 10 _ rfl
  have h11:DataW.trod enc Tryz.prog W 0 (fun _=>true) true n' 3 (([c0,c1,c2,c3,c4,c5,c6,c7,c8,c9,c10,c11,c12,c13,c14,c15,c16,c17,c18].drop 13).take (Tryz.prog.cellsOf 3))=some y11:=hf 11 _ rfl
  have h12:DataW.trod enc Tryz.prog W 0 (fun _=>true) true n' 3 (([c0,c1,c2,c3,c4,c5,c6,c7,c8,c9,c10,c11,c12,c13,c14,c15,c16,c17,c18].drop 14).take (Tryz.prog.cellsOf 3))=some y12:=hf 12 _ rfl
  have h13:DataW.trod enc Tryz.prog W 0 (fun _=>true) true n' 22 (([c0,c1,c2,c3,c4,c5,c6,c7,c8,c9,c10,c11,c12,c13,c14,c15,c16,c17,c18].drop 15).take (Tryz.prog.cellsOf 22))=some y13:=hf 13 _ rfl
  have h14:DataW.trod enc Tryz.prog W 0 (fun _=>true) true n' 66 (([c0,c1,c2,c3,c4,c5,c6,c7,c8,c9,c10,c11,c12,c13,c14,c15,c16,c17,c18].drop 16).take (Tryz.prog.cellsOf 66))=some y14:=hf 14 _ rfl
  have h15:DataW.trod enc Tryz.prog W 0 (fun _=>true) true n' 3 (([c0,c1,c2,c3,c4,c5,c6,c7,c8,c9,c10,c11,c12,c13,c14,c15,c16,c17,c18].drop 18).take (Tryz.prog.cellsOf 3))=some y15:=hf 15 _ rfl
  rw [show Tryz.prog.cellsOf 3=1 by kernel_rfl] at h0
  rw [show Tryz.prog.cellsOf 3=1 by kernel_rfl] at h1
  rw [show Tryz.prog.cellsOf 3=1 by kernel_rfl] at h2
  rw [show Tryz.prog.cellsOf 3=1 by kernel_rfl] at h3
  rw [show Tryz.prog.cellsOf 3=1 by kernel_rfl] at h4
  rw [show Tryz.prog.cellsOf 3=1 by kernel_rfl] at h5
  rw [show Tryz.prog.cellsOf 3=1 by kernel_rfl] at h6
  rw [show Tryz.prog.cellsOf 3=1 by kernel_rfl] at h7
  rw [show Tryz.prog.cellsOf 29=2 by kernel_rfl] at h8
  rw [show Tryz.prog.cellsOf 29=2 by kernel_rfl] at h9
  rw [show Tryz.prog.cellsOf 3=1 by kernel_rfl] at h10
  rw [show Tryz.prog.cellsOf 3=1 by kernel_rfl] at h11
  rw [show Tryz.prog.cellsOf 3=1 by kernel_rfl] at h12
  rw [show Tryz.prog.cellsOf 22=1 by kernel_rfl] at h13
  rw [show Tryz.prog.cellsOf 66=2 by kernel_rfl] at h14
  rw [show Tryz.prog.cellsOf 3=1 by kernel_rfl] at h15
  obtain ⟨a0,e0⟩:=Db h0;obtain ⟨a1,e1⟩:=Db h1;obtain ⟨a2,e2⟩:=Db h2;obtain ⟨a3,e3⟩:=Db h3;obtain ⟨a4,e4⟩:=Db h4;obtain ⟨a5,e5⟩:=Db h5;obtain ⟨a6,e6⟩:=Db h6;obtain ⟨a7,e7⟩:=Db h7;obtain ⟨⟨a8,b8⟩,e8⟩:=rd_span h8;obtain ⟨⟨a9,b9⟩,e9⟩:=rd_span h9;obtain ⟨a10,e10⟩:=Db h10;obtain ⟨a11,e11⟩:=Db h11;obtain ⟨a12,e12⟩:=Db h12;obtain ⟨A13,k13,L13,e13,r13,p13,q13⟩:=rd_ints h13;obtain ⟨⟨a14,b14⟩,e14⟩:=rd_name h14;obtain ⟨a15,e15⟩:=Db h15;simp at e0 e1 e2 e3 e4 e5 e6 e7 e8 e9 e10 e11 e12 e13 e14 e15;subst e0;subst e1;subst e2;subst e3;subst e4;subst e5;subst e6;subst e7;obtain ⟨rfl,rfl⟩:=e8;obtain ⟨rfl,rfl⟩:=e9;subst e10;subst e11;subst e12;subst e13;obtain ⟨rfl,rfl⟩:=e14;subst e15;exact ⟨⟨a0,a1,a2,a3,a4,a5,a6,a7,a8,b8,a9,b9,a10,a11,a12,L13,A13,k13,a14,b14,a15⟩,rfl,r13,Nat.le_trans p13 q13⟩
theorem rd_notes {n:Nat} {cs:List Value} {x:DataW H×List MemPlace} (h:DataW.trod enc Tryz.prog W 0 (fun _=>true) true n 42 cs=some x) :
  ∃ (A:Option Addr) (c:Nat) (L:List Ab),cs=[.slice A L.length c]/\Gm W A L/\L.length<=9223372036854775807/\∀ m∈L,m.strokes.length<=9223372036854775807:=by
 obtain ⟨A,c,L,h1,h2,h5,h3,h4⟩:=Ji (k:=19) (fun m:Ab=>m.At W/\m.strokes.length<=9223372036854775807) (fun m:Ab=>m.arr.toList) (fun _=>rfl) (by decide) Tryz.underlying42 (by kernel_rfl) (fun n cs x h=>by obtain ⟨p,e,r⟩:=rd_note h;exact ⟨p,e,r⟩) h
 have h6:∀ m∈L,m.At W/\m.strokes.length<=9223372036854775807:=fun m hm=>by
  obtain ⟨i,hi,rfl⟩:=List.getElem_of_mem hm;exact h5 i hi
 exact ⟨A,c,L,h1,⟨h2,fun m hm=>(h6 m hm).1⟩,Nat.le_trans h3 h4,fun m hm=>(h6 m hm).2⟩
end
end
section
open Go.ChangeShapes Go.WideShapes Go.RowKit Go.Joins Go.Deep
section
variable {H:Type} {enc:TypeId×Value->H} {W:World}
theorem rd_face {n:Nat} {cs:List Value} {x:DataW H×List MemPlace} (h:DataW.trod enc Tryz.prog W 0 (fun _=>true) true n 24 cs=some x):∃ (f:Fac) (A:Option Addr) (c:Nat),cs=[.int .i64 f.eye,.int .i64 f.rings,.int .i64 f.sec,.slice A f.kinds.length c]/\Ad W A (Ac f.kinds):=by
 obtain ⟨xs,n',_,_,hl,hxl,hf⟩:=DataW.trod_struct Tryz.underlying24 h;have hl2:cs.length=4:=hl.trans (by kernel_rfl)
 have hx2:xs.length=4:=hxl
 match cs,hl2,xs,hx2 with
 | [c0,c1,c2,c3],_,[y0,y1,y2,y3],_ =>
  have h0:DataW.trod enc Tryz.prog W 0 (fun _=>true) true n' 3 (([c0,c1,c2,c3].drop 0).take (Tryz.prog.cellsOf 3))=some y0:=hf 0 _ rfl
  have h1:DataW.trod enc Tryz.prog W 0 (fun _=>true) true n' 3 (([c0,c1,c2,c3].drop 1).take (Tryz.prog.cellsOf 3))=some y1:=hf 1 _ rfl
  have h2:DataW.trod enc Tryz.prog W 0 (fun _=>true) true n' 3 (([c0,c1,c2,c3].drop 2).take (Tryz.prog.cellsOf 3))=some y2:=hf 2 _ rfl
  have h3:DataW.trod enc Tryz.prog W 0 (fun _=>true) true n' 22 (([c0,c1,c2,c3].drop 3).take (Tryz.prog.cellsOf 22))=some y3:=hf 3 _ rfl
  rw [show Tryz.prog.cellsOf 3=1 by kernel_rfl] at h0
  rw [show Tryz.prog.cellsOf 3=1 by kernel_rfl] at h1
  rw [show Tryz.prog.cellsOf 3=1 by kernel_rfl] at h2
  rw [show Tryz.prog.cellsOf 22=1 by kernel_rfl] at h3
  obtain ⟨a0,e0⟩:=Db h0;obtain ⟨a1,e1⟩:=Db h1;obtain ⟨a2,e2⟩:=Db h2;obtain ⟨A3,k3,L3,e3,r3,p3,q3⟩:=rd_ints h3;simp at e0 e1 e2 e3;subst e0;subst e1;subst e2;subst e3;exact ⟨⟨a0,a1,a2,L3⟩,A3,k3,rfl,r3⟩
theorem rd_pocket {n:Nat} {cs:List Value} {x:DataW H×List MemPlace} (h:DataW.trod enc Tryz.prog W 0 (fun _=>true) true n 154 cs=some x):∃ p:Int×Int×Int,cs=[.int .i64 p.1,.int .i64 p.2.1,.int .i64 p.2.2]:=by
 obtain ⟨xs,n',_,_,hl,hxl,hf⟩:=DataW.trod_struct Tryz.underlying154 h;have hl2:cs.length=3:=hl.trans (by kernel_rfl)
 have hx2:xs.length=2:=hxl
 match cs,hl2,xs,hx2 with
 | [c0,c1,c2],_,[y0,y1],_ =>
  have h0:DataW.trod enc Tryz.prog W 0 (fun _=>true) true n' 152 (([c0,c1,c2].drop 0).take (Tryz.prog.cellsOf 152))=some y0:=hf 0 _ rfl
  have h1:DataW.trod enc Tryz.prog W 0 (fun _=>true) true n' 3 (([c0,c1,c2].drop 2).take (Tryz.prog.cellsOf 3))=some y1:=hf 1 _ rfl
  rw [show Tryz.prog.cellsOf 152=2 by kernel_rfl] at h0
  rw [show Tryz.prog.cellsOf 3=1 by kernel_rfl] at h1
  obtain ⟨⟨a0,b0⟩,e0⟩:=rd_point h0;obtain ⟨a1,e1⟩:=Db h1;simp at e0 e1;obtain ⟨rfl,rfl⟩:=e0;subst e1;exact ⟨(a0,b0,a1),rfl⟩
theorem rd_mesh {n:Nat} {cs:List Value} {x:DataW H×List MemPlace} (h:DataW.trod enc Tryz.prog W 0 (fun _=>true) true n 84 cs=some x):∃ m:Fr,cs=[.int .i64 m.dr,.int .i64 m.dn,.int .i64 m.pl]:=by
 obtain ⟨xs,n',_,_,hl,hxl,hf⟩:=DataW.trod_struct Tryz.underlying84 h;have hl2:cs.length=3:=hl.trans (by kernel_rfl)
 have hx2:xs.length=3:=hxl
 match cs,hl2,xs,hx2 with
 | [c0,c1,c2],_,[y0,y1,y2],_ =>
  have h0:DataW.trod enc Tryz.prog W 0 (fun _=>true) true n' 3 (([c0,c1,c2].drop 0).take (Tryz.prog.cellsOf 3))=some y0:=hf 0 _ rfl
  have h1:DataW.trod enc Tryz.prog W 0 (fun _=>true) true n' 3 (([c0,c1,c2].drop 1).take (Tryz.prog.cellsOf 3))=some y1:=hf 1 _ rfl
  have h2:DataW.trod enc Tryz.prog W 0 (fun _=>true) true n' 3 (([c0,c1,c2].drop 2).take (Tryz.prog.cellsOf 3))=some y2:=hf 2 _ rfl
  rw [show Tryz.prog.cellsOf 3=1 by kernel_rfl] at h0
  rw [show Tryz.prog.cellsOf 3=1 by kernel_rfl] at h1
  rw [show Tryz.prog.cellsOf 3=1 by kernel_rfl] at h2
  obtain ⟨a0,e0⟩:=Db h0;obtain ⟨a1,e1⟩:=Db h1;obtain ⟨a2,e2⟩:=Db h2;simp at e0 e1 e2;subst e0;subst e1;subst e2;exact ⟨⟨a0,a1,a2⟩,rfl⟩
end
end
section
open Go.ChangeShapes Go.WideShapes Go.RowKit Go.Joins Go.Deep
section
variable {H:Type} {enc:TypeId×Value->H} {W:World}
theorem one_flat {α:Type} (g:α->Value):∀ L:List α,L.flatMap (fun q=>[g q])=L.map g
 | []=>rfl
 | x :: l=>by rw [List.flatMap_cons,one_flat g l];rfl
def roomV {α:Type} (q:Sl×List α):Value:=.slice q.1.1 q.2.length q.1.2
theorem rd_rows {α:Type} {t e:TypeId} (f:List α->List Value) (ht:Tryz.prog.underlying t=some (.slice e)) (hC:Tryz.prog.cellsOf e=1)
  (hdec:∀ n cs x,DataW.trod enc Tryz.prog W 0 (fun _=>true) true n e cs=some x->∃ (A:Option Addr) (c:Nat) (L:List α),cs=[.slice A L.length c]/\Ad W A (f L)/\L.length<=c/\c<=9223372036854775807)
  {n:Nat} {cs:List Value} {x:DataW H×List MemPlace} (h:DataW.trod enc Tryz.prog W 0 (fun _=>true) true n t cs=some x) :
  ∃ (A:Option Addr) (c:Nat) (rows:List Sl) (ls:List (List α)),cs=[.slice A ls.length c]/\Ad W A ((List.range ls.length).map (rowV rows ls))/\
   (∀ i,i<ls.length->Ad W (rows.getD i (none,0)).1 (f (ls.getD i [])))/\ls.length<=9223372036854775807/\∀ i,i<ls.length->(ls.getD i []).length<=9223372036854775807:=by
 obtain ⟨A,c,L,h1,h2,h3,h4,h5⟩:=Ji (k:=1) (fun q:Sl×List α=>Ad W q.1.1 (f q.2)/\q.2.length<=9223372036854775807) (fun q=>[roomV q]) (fun _=>rfl) (by decide) ht hC
  (fun n cs x h=>by obtain ⟨A,c,L,e,hr,p,q⟩:=hdec n cs x h;exact ⟨((A,c),L),e,hr,Nat.le_trans p q⟩) h
 have hd:∀ i (hi:i<L.length),(L.map (fun q=>q.2)).getD i []=L[i].2:=fun i hi=>by
  rw [Aj _ _ (by simpa using hi)];simp
 have hz:∀ i (hi:i<L.length),(L.map (fun q=>q.1)).getD i (none,0)=L[i].1:=fun i hi=>by
  rw [Aj _ _ (by simpa using hi)];simp
 refine ⟨A,c,L.map (fun q=>q.1),L.map (fun q=>q.2),by simpa using h1,?_,fun i hi=>?_,by simpa using Nat.le_trans h4 h5,fun i hi=>?_⟩
 ·have e:(List.range (L.map (fun q=>q.2)).length).map (rowV (L.map (fun q=>q.1)) (L.map (fun q=>q.2)))=L.flatMap (fun q=>[roomV q]):=by
   refine List.ext_getElem? fun i=>?_
   rw [one_flat]
   by_cases hi:i<L.length
   ·rw [List.getElem?_eq_getElem (by simpa using hi),List.getElem?_eq_getElem (by simpa using hi)]
    simp only [List.getElem_map,List.getElem_range,rowV,hd i hi,hz i hi,roomV]
   ·rw [List.getElem?_eq_none (by simp;omega),List.getElem?_eq_none (by simp;omega)]
  rw [e];exact h2
 ·have hi':i<L.length:=by simpa using hi
  rw [hd i hi',hz i hi'];exact (h3 i hi').1
 ·have hi':i<L.length:=by simpa using hi
  rw [hd i hi'];exact (h3 i hi').2
theorem rd_mv {n:Nat} {cs:List Value} {x:DataW H×List MemPlace} (h:DataW.trod enc Tryz.prog W 0 (fun _=>true) true n 247 cs=some x):∃ p:Mv,cs=p.cells:=by
 obtain ⟨xs,n',_,_,hl,hxl,hf⟩:=DataW.trod_struct Tryz.underlying247 h;have hl2:cs.length=3:=hl.trans (by kernel_rfl)
 have hx2:xs.length=3:=hxl
 match cs,hl2,xs,hx2 with
 | [c0,c1,c2],_,[y0,y1,y2],_ =>
  have h0:DataW.trod enc Tryz.prog W 0 (fun _=>true) true n' 3 (([c0,c1,c2].drop 0).take (Tryz.prog.cellsOf 3))=some y0:=hf 0 _ rfl
  have h1:DataW.trod enc Tryz.prog W 0 (fun _=>true) true n' 3 (([c0,c1,c2].drop 1).take (Tryz.prog.cellsOf 3))=some y1:=hf 1 _ rfl
  have h2:DataW.trod enc Tryz.prog W 0 (fun _=>true) true n' 4 (([c0,c1,c2].drop 2).take (Tryz.prog.cellsOf 4))=some y2:=hf 2 _ rfl
  rw [show Tryz.prog.cellsOf 3=1 by kernel_rfl] at h0
  rw [show Tryz.prog.cellsOf 3=1 by kernel_rfl] at h1
  rw [show Tryz.prog.cellsOf 4=1 by kernel_rfl] at h2
  obtain ⟨a0,e0⟩:=Db h0;obtain ⟨a1,e1⟩:=Db h1;obtain ⟨a2,e2⟩:=rd_bool h2;simp at e0 e1 e2;subst e0;subst e1;subst e2;exact ⟨⟨a0,a1,a2⟩,rfl⟩
theorem rd_mvs {n:Nat} {cs:List Value} {x:DataW H×List MemPlace} (h:DataW.trod enc Tryz.prog W 0 (fun _=>true) true n 155 cs=some x) :
  ∃ (A:Option Addr) (c:Nat) (L:List Mv),cs=[.slice A L.length c]/\Ad W A (Gz L)/\L.length<=c/\c<=9223372036854775807:=by
 obtain ⟨A,c,L,h1,h2,_,h3,h4⟩:=Ji (k:=3) (fun _=>True) Mv.cells (fun _=>rfl) (by decide) Tryz.underlying155 (by kernel_rfl) (fun n cs x h=>by obtain ⟨p,e⟩:=rd_mv h;exact ⟨p,e,trivial⟩) h
 exact ⟨A,c,L,h1,h2,h3,h4⟩
theorem rd_points {n:Nat} {cs:List Value} {x:DataW H×List MemPlace} (h:DataW.trod enc Tryz.prog W 0 (fun _=>true) true n 35 cs=some x) :
  ∃ (A:Option Addr) (c:Nat) (L:List (Int×Int)),cs=[.slice A L.length c]/\Ad W A (Am L)/\L.length<=c/\c<=9223372036854775807:=by
 obtain ⟨A,c,L,h1,h2,_,h3,h4⟩:=Ji (k:=2) (fun _=>True) (fun p:Int×Int=>[.int .i64 p.1,.int .i64 p.2]) (fun _=>rfl) (by decide) Tryz.underlying35 (by kernel_rfl) (fun n cs x h=>by obtain ⟨p,e⟩:=rd_point h;exact ⟨p,e,trivial⟩) h
 exact ⟨A,c,L,h1,h2,h3,h4⟩
theorem rd_pockets {n:Nat} {cs:List Value} {x:DataW H×List MemPlace} (h:DataW.trod enc Tryz.prog W 0 (fun _=>true) true n 36 cs=some x) :
  ∃ (A:Option Addr) (c:Nat) (L:List (Int×Int×Int)),cs=[.slice A L.length c]/\Ad W A (Fk L)/\L.length<=c/\c<=9223372036854775807:=by
 obtain ⟨A,c,L,h1,h2,_,h3,h4⟩:=Ji (k:=3) (fun _=>True) (fun p:Int×Int×Int=>[.int .i64 p.1,.int .i64 p.2.1,.int .i64 p.2.2]) (fun _=>rfl) (by decide) Tryz.underlying36 (by kernel_rfl) (fun n cs x h=>by obtain ⟨p,e⟩:=rd_pocket h;exact ⟨p,e,trivial⟩) h
 exact ⟨A,c,L,h1,h2,h3,h4⟩
theorem rd_meshes {n:Nat} {cs:List Value} {x:DataW H×List MemPlace} (h:DataW.trod enc Tryz.prog W 0 (fun _=>true) true n 37 cs=some x) :
  ∃ (A:Option Addr) (c:Nat) (L:List (Fr)),cs=[.slice A L.length c]/\Ad W A (Ff L)/\L.length<=c/\c<=9223372036854775807:=by
 obtain ⟨A,c,L,h1,h2,_,h3,h4⟩:=Ji (k:=3) (fun _=>True) (fun m:Fr=>[.int .i64 m.dr,.int .i64 m.dn,.int .i64 m.pl]) (fun _=>rfl) (by decide) Tryz.underlying37 (by kernel_rfl) (fun n cs x h=>by obtain ⟨p,e⟩:=rd_mesh h;exact ⟨p,e,trivial⟩) h
 exact ⟨A,c,L,h1,h2,h3,h4⟩
theorem rd_drive {n:Nat} {cs:List Value} {x:DataW H×List MemPlace} (h:DataW.trod enc Tryz.prog W 0 (fun _=>true) true n 25 cs=some x) :
  ∃ (A:Option Addr) (c:Nat) (rows:List Sl) (ls:List (List Mv)),cs=[.slice A ls.length c]/\Ad W A ((List.range ls.length).map (rowV rows ls))/\(∀ i,i<ls.length->Ad W (rows.getD i (none,0)).1 (Gz (ls.getD i [])))/\ls.length<=9223372036854775807/\∀ i,i<ls.length->(ls.getD i []).length<=9223372036854775807 :=
 rd_rows Gz Tryz.underlying25 (by kernel_rfl) (fun _ _ _ h=>rd_mvs h) h
theorem rd_reach {n:Nat} {cs:List Value} {x:DataW H×List MemPlace} (h:DataW.trod enc Tryz.prog W 0 (fun _=>true) true n 32 cs=some x) :
  ∃ (A:Option Addr) (c:Nat) (rows:List Sl) (ls:List (List Int)),cs=[.slice A ls.length c]/\Ad W A ((List.range ls.length).map (rowV rows ls))/\(∀ i,i<ls.length->Ad W (rows.getD i (none,0)).1 (Ac (ls.getD i [])))/\ls.length<=9223372036854775807/\∀ i,i<ls.length->(ls.getD i []).length<=9223372036854775807 :=
 rd_rows Ac Tryz.underlying32 (by kernel_rfl) (fun _ _ _ h=>rd_ints h) h
theorem rd_both {n:Nat} {cs:List Value} {x:DataW H×List MemPlace} (h:DataW.trod enc Tryz.prog W 0 (fun _=>true) true n 31 cs=some x) :
  ∃ (A B:Option Addr) (c d:Nat) (L M:List (Int×Int)),cs=[.slice A L.length c,.slice B M.length d]/\Ad W A (Am L)/\Ad W B (Am M):=by
 obtain ⟨xs,m,_,_,hl,hxl,hf⟩:=DataW.trod_array Tryz.underlying31 h;have hl2:cs.length=2:=hl.trans (by kernel_rfl)
 have hx2:xs.length=2:=hxl
 match cs,hl2,xs,hx2 with
 | [c0,c1],_,[y0,y1],_ =>
  have h0:DataW.trod enc Tryz.prog W 0 (fun _=>true) true m 30 (([c0,c1].drop (0*Tryz.prog.cellsOf 30)).take (Tryz.prog.cellsOf 30))=some y0:=hf 0 (by omega)
  have h1:DataW.trod enc Tryz.prog W 0 (fun _=>true) true m 30 (([c0,c1].drop (1*Tryz.prog.cellsOf 30)).take (Tryz.prog.cellsOf 30))=some y1:=hf 1 (by omega)
  rw [show Tryz.prog.cellsOf 30=1 by kernel_rfl] at h0
  rw [show Tryz.prog.cellsOf 30=1 by kernel_rfl] at h1
  obtain ⟨A0,k0,L0,e0,r0,p0,q0⟩:=rd_spans h0;obtain ⟨A1,k1,L1,e1,r1,p1,q1⟩:=rd_spans h1;simp at e0 e1;subst e0;subst e1;exact ⟨A0,A1,k0,k1,L0,L1,rfl,r0,r1⟩
theorem rd_train {n:Nat} {cs:List Value} {x:DataW H×List MemPlace} (h:DataW.trod enc Tryz.prog W 0 (fun _=>true) true n 39 cs=some x):∃ (A:Option Addr) (c:Nat) (L:List Fr),cs=[.slice A L.length c]/\Ad W A (Ff L):=by
 obtain ⟨xs,n',_,_,hl,hxl,hf⟩:=DataW.trod_struct Tryz.underlying39 h;have hl2:cs.length=1:=hl.trans (by kernel_rfl)
 have hx2:xs.length=1:=hxl
 match cs,hl2,xs,hx2 with
 | [c0],_,[y0],_ =>
  have h0:DataW.trod enc Tryz.prog W 0 (fun _=>true) true n' 37 (([c0].drop 0).take (Tryz.prog.cellsOf 37))=some y0:=hf 0 _ rfl
  rw [show Tryz.prog.cellsOf 37=1 by kernel_rfl] at h0
  obtain ⟨A0,k0,L0,e0,r0,p0,q0⟩:=rd_meshes h0;simp at e0;subst e0;exact ⟨A0,k0,L0,rfl,r0⟩
theorem rd_crew {n:Nat} {cs:List Value} {x:DataW H×List MemPlace} (h:DataW.trod enc Tryz.prog W 0 (fun _=>true) true n 34 cs=some x):∃ (A:Option Addr) (c:Nat) (L:List Int) (B:Option Addr) (d:Nat) (rows:List Sl) (ls:List (List Int)),cs=[.slice A L.length c,.slice B ls.length d]/\Ad W A (Ac L)/\Ad W B ((List.range ls.length).map (rowV rows ls))/\(∀ i,i<ls.length->Ad W (rows.getD i (none,0)).1 (Ac (ls.getD i [])))/\ls.length<=9223372036854775807/\∀ i,i<ls.length->(ls.getD i []).length<=9223372036854775807:=by
 obtain ⟨xs,n',_,_,hl,hxl,hf⟩:=DataW.trod_struct Tryz.underlying34 h;have hl2:cs.length=2:=hl.trans (by kernel_rfl)
 have hx2:xs.length=2:=hxl
 match cs,hl2,xs,hx2 with
 | [c0,c1],_,[y0,y1],_ =>
  have h0:DataW.trod enc Tryz.prog W 0 (fun _=>true) true n' 22 (([c0,c1].drop 0).take (Tryz.prog.cellsOf 22))=some y0:=hf 0 _ rfl
  have h1:DataW.trod enc Tryz.prog W 0 (fun _=>true) true n' 32 (([c0,c1].drop 1).take (Tryz.prog.cellsOf 32))=some y1:=hf 1 _ rfl
  rw [show Tryz.prog.cellsOf 22=1 by kernel_rfl] at h0
  rw [show Tryz.prog.cellsOf 32=1 by kernel_rfl] at h1
  obtain ⟨A0,k0,L0,e0,r0,p0,q0⟩:=rd_ints h0;obtain ⟨A1,k1,z1,L1,e1,r1,s1,p1,q1⟩:=rd_reach h1;simp at e0 e1;subst e0;subst e1;exact ⟨A0,k0,L0,A1,k1,z1,L1,rfl,r0,r1,s1,p1,q1⟩
theorem rd_pair {n:Nat} {cs:List Value} {x:DataW H×List MemPlace} (h:DataW.trod enc Tryz.prog W 0 (fun _=>true) true n 27 cs=some x):∃ (f g:Fac) (A B E:Option Addr) (c d k:Nat) (rows:List Sl) (ls:List (List Mv)),cs=[.int .i64 f.eye,.int .i64 f.rings,.int .i64 f.sec,.slice A f.kinds.length c,.int .i64 g.eye,.int .i64 g.rings,.int .i64 g.sec,.slice B g.kinds.length d,.slice E ls.length k]/\Ad W A (Ac f.kinds)/\Ad W B (Ac g.kinds)/\Ad W E ((List.range ls.length).map (rowV rows ls))/\(∀ i,i<ls.length->Ad W (rows.getD i (none,0)).1 (Gz (ls.getD i [])))/\ls.length<=9223372036854775807/\∀ i,i<ls.length->(ls.getD i []).length<=9223372036854775807:=by
 obtain ⟨xs,n',_,_,hl,hxl,hf⟩:=DataW.trod_struct Tryz.underlying27 h;have hl2:cs.length=9:=hl.trans (by kernel_rfl)
 have hx2:xs.length=3:=hxl
 match cs,hl2,xs,hx2 with
 | [c0,c1,c2,c3,c4,c5,c6,c7,c8],_,[y0,y1,y2],_ =>
  have h0:DataW.trod enc Tryz.prog W 0 (fun _=>true) true n' 24 (([c0,c1,c2,c3,c4,c5,c6,c7,c8].drop 0).take (Tryz.prog.cellsOf 24))=some y0:=hf 0 _ rfl
  have h1:DataW.trod enc Tryz.prog W 0 (fun _=>true) true n' 24 (([c0,c1,c2,c3,c4,c5,c6,c7,c8].drop 4).take (Tryz.prog.cellsOf 24))=some y1:=hf 1 _ rfl
  have h2:DataW.trod enc Tryz.prog W 0 (fun _=>true) true n' 25 (([c0,c1,c2,c3,c4,c5,c6,c7,c8].drop 8).take (Tryz.prog.cellsOf 25))=some y2:=hf 2 _ rfl
  rw [show Tryz.prog.cellsOf 24=4 by kernel_rfl] at h0
  rw [show Tryz.prog.cellsOf 24=4 by kernel_rfl] at h1
  rw [show Tryz.prog.cellsOf 25=1 by kernel_rfl] at h2
  obtain ⟨f0,A0,k0,e0,r0⟩:=rd_face h0;obtain ⟨f1,A1,k1,e1,r1⟩:=rd_face h1;obtain ⟨A2,k2,z2,L2,e2,r2,s2,p2,q2⟩:=rd_drive h2;simp at e0 e1 e2;obtain ⟨rfl,rfl,rfl,rfl⟩:=e0;obtain ⟨rfl,rfl,rfl,rfl⟩:=e1;subst e2;exact ⟨f0,f1,A0,A1,A2,k0,k1,k2,z2,L2,rfl,r0,r1,r2,s2,p2,q2⟩
theorem rd_base {n:Nat} {cs:List Value} {x:DataW H×List MemPlace} (h:DataW.trod enc Tryz.prog W 0 (fun _=>true) true n 41 cs=some x):∃ (b:Al) (z:Df),cs=(b.arr z).toList/\Fa W b z/\b.reach.length<=9223372036854775807/\b.drive.length<=9223372036854775807 /\
   (∀ k,k<b.reach.length->(b.reach.getD k []).length<=9223372036854775807)/\∀ k,k<b.drive.length->(b.drive.getD k []).length<=9223372036854775807:=by
 obtain ⟨xs,n',_,_,hl,hxl,hf⟩:=DataW.trod_struct Tryz.underlying41 h;have hl2:cs.length=28:=hl.trans (by kernel_rfl)
 have hx2:xs.length=15:=hxl
 match cs,hl2,xs,hx2 with
 | [c0,c1,c2,c3,c4,c5,c6,c7,c8,c9,c10,c11,c12,c13,c14,c15,c16,c17,c18,c19,c20,c21,c22,c23,c24,c25,c26,c27],_,[y0,y1,y2,y3,y4,y5,y6,y7,y8,y9,y10,y11,y12,y13,y14],_ =>
  have h0:DataW.trod enc Tryz.prog W 0 (fun _=>true) true n' 27 (([c0,c1,c2,c3,c4,c5,c6,c7,c8,c9,c10,c11,c12,c13,c14,c15,c16,c17,c18,c19,c20,c21,c22,c23,c24,c25,c26,c27].drop 0).take (Tryz.prog.cellsOf 27))=some y0:=hf 0 _ rfl
  have h1:DataW.trod enc Tryz.prog W 0 (fun _=>true) true n' 3 (([c0,c1,c2,c3,c4,c5,c6,c7,c8,c9,c10,c11,c12,c13,c14,c15,c16,c17,c18,c19,c20,c21,c22,c23,c24,c25,c26,c27].drop 9).take (Tryz.prog.cellsOf 3))=some y1:=hf 1 _ rfl
  have h2:DataW.trod enc Tryz.prog W 0 (fun _=>true) true n' 3 (([c0,c1,c2,c3,c4,c5,c6,c7,c8,c9,c10,c11,c12,c13,c14,c15,c16,c17,c18,c19,c20,c21,c22,c23,c24,c25,c26,c27].drop 10).take (Tryz.prog.cellsOf 3))=some y2:=hf 2 _ rfl
  have h3:DataW.trod enc Tryz.prog W 0 (fun _=>true) true n' 22 (([c0,c1,c2,c3,c4,c5,c6,c7,c8,c9,c10,c11,c12,c13,c14,c15,c16,c17,c18,c19,c20,c21,c22,c23,c24,c25,c26,c27].drop 11).take (Tryz.prog.cellsOf 22))=some y3:=hf 3 _ rfl
  have h4:DataW.trod enc Tryz.prog W 0 (fun _=>true) true n' 29 (([c0,c1,c2,c3,c4,c5,c6,c7,c8,c9,c10,c11,c12,c13,c14,c15,c16,c17,c18,c19,c20,c21,c22,c23,c24,c25,c26,c27].drop 12).take (Tryz.prog.cellsOf 29))=some y4:=hf 4 _ rfl
  have h5:DataW.trod enc Tryz.prog W 0 (fun _=>true) true n' 31 (([c0,c1,c2,c3,c4,c5,c6,c7,c8,c9,c10,c11,c12,c13,c14,c15,c16,c17,c18,c19,c20,c21,c22,c23,c24,c25,c26,c27].drop 14).take (Tryz.prog.cellsOf 31))=some y5:=hf 5 _ rfl
  have h6:DataW.trod enc Tryz.prog W 0 (fun _=>true) true n' 31 (([c0,c1,c2,c3,c4,c5,c6,c7,c8,c9,c10,c11,c12,c13,c14,c15,c16,c17,c18,c19,c20,c21,c22,c23,c24,c25,c26,c27].drop 16).take (Tryz.prog.cellsOf 31))=some y6:=hf 6 _ rfl
  have h7:DataW.trod enc Tryz.prog W 0 (fun _=>true) true n' 29 (([c0,c1,c2,c3,c4,c5,c6,c7,c8,c9,c10,c11,c12,c13,c14,c15,c16,c17,c18,c19,c20,c21,c22,c23,c24,c25,c26,c27].drop 18).take (Tryz.prog.cellsOf 29))=some y7:=hf 7 _ rfl
  have h8:DataW.trod enc Tryz.prog W 0 (fun _=>true) true n' 3 (([c0,c1,c2,c3,c4,c5,c6,c7,c8,c9,c10,c11,c12,c13,c14,c15,c16,c17,c18,c19,c20,c21,c22,c23,c24,c25,c26,c27].drop 20).take (Tryz.prog.cellsOf 3))=some y8:=hf 8 _ rfl
  have h9:DataW.trod enc Tryz.prog W 0 (fun _=>true) true n' 34 (([c0,c1,c2,c3,c4,c5,c6,c7,c8,c9,c10,c11,c12,c13,c14,c15,c16,c17,c18,c19,c20,c21,c22,c23,c24,c25,c26,c27].drop 21).take (Tryz.prog.cellsOf 34))=some y9:=hf 9 _ rfl
  have h10:DataW.trod enc Tryz.prog W 0 (fun _=>true) true n' 35 (([c0,c1,c2,c3,c4,c5,c6,c7,c8,c9,c10,c11,c12,c13,c14,c15,c16,c17,c18,c19,c20,c21,c22,c23,c24,c25,c26,c27].drop 23).take (Tryz.prog.cellsOf 35))=some y10:=hf 10 _ rfl
  have h11:DataW.trod enc Tryz.prog W 0 (fun _=>true) true n' 36 (([c0,c1,c2,c3,c4,c5,c6,c7,c8,c9,c10,c11,c12,c13,c14,c15,c16,c17,c18,c19,c20,c21,c22,c23,c24,c25,c26,c27].drop 24).take (Tryz.prog.cellsOf 36))=some y11:=hf 11 _ rfl
  have h12:DataW.trod enc Tryz.prog W 0 (fun _=>true) true n' 3 (([c0,c1,c2,c3,c4,c5,c6,c7,c8,c9,c10,c11,c12,c13,c14,c15,c16,c17,c18,c19,c20,c21,c22,c23,c24,c25,c26,c27].drop 25).take (Tryz.prog.cellsOf 3))=some y12:=hf 12 _ rfl
  have h13:DataW.trod enc Tryz.prog W 0 (fun _=>true) true n' 39 (([c0,c1,c2,c3,c4,c5,c6,c7,c8,c9,c10,c11,c12,c13,c14,c15,c16,c17,c18,c19,c20,c21,c22,c23,c24,c25,c26,c27].drop 26).take (Tryz.prog.cellsOf 39))=some y13:=hf 13 _ rfl
  have h14:DataW.trod enc Tryz.prog W 0 (fun _=>true) true n' 3 (([c0,c1,c2,c3,c4,c5,c6,c7,c8,c9,c10,c11,c12,c13,c14,c15,c16,c17,c18,c19,c20,c21,c22,c23,c24,c25,c26,c27].drop 27).take (Tryz.prog.cellsOf 3))=some y14:=hf 14 _ rfl
  rw [show Tryz.prog.cellsOf 27=9 by kernel_rfl] at h0
  rw [show Tryz.prog.cellsOf 3=1 by kernel_rfl] at h1
  rw [show Tryz.prog.cellsOf 3=1 by kernel_rfl] at h2
  rw [show Tryz.prog.cellsOf 22=1 by kernel_rfl] at h3
  rw [show Tryz.prog.cellsOf 29=2 by kernel_rfl] at h4
  rw [show Tryz.prog.cellsOf 31=2 by kernel_rfl] at h5
  rw [show Tryz.prog.cellsOf 31=2 by kernel_rfl] at h6
  rw [show Tryz.prog.cellsOf 29=2 by kernel_rfl] at h7
  rw [show Tryz.prog.cellsOf 3=1 by kernel_rfl] at h8
  rw [show Tryz.prog.cellsOf 34=2 by kernel_rfl] at h9
  rw [show Tryz.prog.cellsOf 35=1 by kernel_rfl] at h10
  rw [show Tryz.prog.cellsOf 36=1 by kernel_rfl] at h11
  rw [show Tryz.prog.cellsOf 3=1 by kernel_rfl] at h12
  rw [show Tryz.prog.cellsOf 39=1 by kernel_rfl] at h13
  rw [show Tryz.prog.cellsOf 3=1 by kernel_rfl] at h14
  obtain ⟨f0,g0,A0,B0,E0,c0_,d0,k0,z0,L0,e0,r0,s0,t0,u0,p0,q0⟩:=rd_pair h0;obtain ⟨a1,e1⟩:=Db h1;obtain ⟨a2,e2⟩:=Db h2;obtain ⟨A3,k3,L3,e3,r3,p3,q3⟩:=rd_ints h3;obtain ⟨⟨a4,b4⟩,e4⟩:=rd_span h4;obtain ⟨A5,B5,c5_,d5,L5,M5,e5,r5,s5⟩:=rd_both h5;obtain ⟨A6,B6,c6_,d6,L6,M6,e6,r6,s6⟩:=rd_both h6;obtain ⟨⟨a7,b7⟩,e7⟩:=rd_span h7;obtain ⟨a8,e8⟩:=Db h8;obtain ⟨A9,c9_,L9,B9,d9,z9,M9,e9,r9,s9,t9,p9,q9⟩:=rd_crew h9;obtain ⟨A10,k10,L10,e10,r10,p10,q10⟩:=rd_points h10;obtain ⟨A11,k11,L11,e11,r11,p11,q11⟩:=rd_pockets h11;obtain ⟨a12,e12⟩:=Db h12;obtain ⟨A13,k13,L13,e13,r13⟩:=rd_train h13;obtain ⟨a14,e14⟩:=Db h14;simp at e0 e1 e2 e3 e4 e5 e6 e7 e8 e9 e10 e11 e12 e13 e14;obtain ⟨rfl,rfl,rfl,rfl,rfl,rfl,rfl,rfl,rfl⟩:=e0;subst e1;subst e2;subst e3;obtain ⟨rfl,rfl⟩:=e4;obtain ⟨rfl,rfl⟩:=e5;obtain ⟨rfl,rfl⟩:=e6;obtain ⟨rfl,rfl⟩:=e7;subst e8;obtain ⟨rfl,rfl⟩:=e9;subst e10;subst e11;subst e12;subst e13;subst e14;exact ⟨⟨f0,g0,L0,a1,a2,L3,a4,b4,L5,M5,L6,M6,a7,b7,a8,L9,M9,L10,L11,a12,L13,a14⟩,⟨(A0,c0_),(B0,d0),(E0,k0),z0,(A3,k3),(A5,c5_),(B5,d5),(A6,c6_),(B6,d6),(A9,c9_),(B9,d9),z9,(A10,k10),(A11,k11),(A13,k13)⟩,rfl,
   ⟨r0,s0,t0,u0,r3,r5,s5,r6,s6,r9,s9,t9,r10,r11,r13⟩,p9,p0,q9,q0⟩
end
section
variable {H:Type} {enc:TypeId×Value->H} {W:World} {b0:Nat} {v:Value} {d:DataW H} {p:List MemPlace}
theorem arg_base (h:DataW.Trod enc Tryz.prog W 0 (fun _=>true) true 41 v d p) (hv:Value.okWide Tryz.prog W .any b0 41 v):∃ (b:Al) (z:Df),v=.agg (b.arr z)/\Fa W b z/\b.reach.length<=9223372036854775807/\b.drive.length<=9223372036854775807 /\
   (∀ k,k<b.reach.length->(b.reach.getD k []).length<=9223372036854775807)/\∀ k,k<b.drive.length->(b.drive.getD k []).length<=9223372036854775807:=by
 obtain ⟨cs,rfl,hsz⟩:=okWide_struct Tryz.underlying41 hv;obtain ⟨fuel,hf⟩:=h;obtain ⟨b,z,h1,h2⟩:=rd_base hf;have:cs=b.arr z:=Array.toList_inj.1 h1;exact ⟨b,z,by rw [this],h2⟩
theorem arg_notes (h:DataW.Trod enc Tryz.prog W 0 (fun _=>true) true 42 v d p) (hv:Value.okWide Tryz.prog W .any b0 42 v) :
  ∃ (A:Option Addr) (c:Nat) (L:List Ab),v=.slice A L.length c/\Gm W A L/\L.length<=9223372036854775807/\∀ m∈L,m.strokes.length<=9223372036854775807:=by
 obtain ⟨a,len,cap,rfl⟩:=okWide_slice Tryz.underlying42 hv;obtain ⟨fuel,hf⟩:=h;obtain ⟨A,c,L,h1,h2,h3,h4⟩:=rd_notes (cs:=[.slice a len cap]) hf;injection h1 with h1 _
 exact ⟨A,c,L,h1,h2,h3,h4⟩
end
end
end Go.Proofs.YteihcodicfoiaaaGreat
