/-
  What is proved: the contracts of fewLeads and Few.
-/
import Derived.Test.YteihcodicfoiaaaGreatBaseDMf
namespace Go.Proofs.YteihcodicfoiaaaGreat
set_option maxRecDepth 100000
set_option maxHeartbeats 8000000
open Go Go.RowKit
def FewLeadsP (b:Al) (w:World) (e:Ending) (w':World):Prop :=
 Below w.heap.size w w'/\∃ v:Bool,e=.returned (.bool v)/\(v=true->b.reach.length<=20/\b.drive.length<=20/\(∀ l∈b.reach,l.length<=70)/\(∀ l∈b.drive,l.length<=10))
theorem all_len {α:Type} {ls:List (List α)} {M:Nat} (h:∀ k,k<ls.length->(ls.getD k []).length<=M):∀ l∈ls,l.length<=M:=fun l hl=>by
 obtain ⟨k,hk,rfl⟩:=List.getElem_of_mem hl;have:=h k hk
 rwa [Aj _ _ hk] at this
theorem fewLeads_any (b:Al) (z:Df) (w:World) (hb:Fa w b z) (hp:b.pockets.length<=4) (hr:b.reach.length<=9223372036854775807) (hd:b.drive.length<=9223372036854775807)
  (hrr:∀ k,k<b.reach.length->(b.reach.getD k []).length<=9223372036854775807) (hdd:∀ k,k<b.drive.length->(b.drive.getD k []).length<=9223372036854775807) :
  Calls Tryz.prog 32 #[.agg (b.arr z)] w (FewLeadsP b w):=by
 obtain ⟨W,hW⟩:∃ W,w.alloc (.cells (b.arr z) 41)=W:=⟨_,rfl⟩;have hbW:Below w.heap.size w W:=by rw [<- hW];exact Ba
 have X:=(show Bk W w.heap.size 41 (b.arr z) by rw [<- hW];exact Aa rfl)
 unfold Al.arr at *;have x8:=X.cell 8;have x22:=X.cell 22;have x24:=X.cell 24;simp at x8 x22 x24;have HW:=Hd hW;have HB:=Hd (hb.below hbW);have HRR:=Hd hrr;have HDD:=Hd hdd;clear hW hb X hrr hdd;go_enter Tryz.func32,Tryz.ntmps32;go_upto_region 1 with fail
 rw [HW.out];clear HW;go_wp2_with fail;go_loopw [3,4] (fun vn i wr=>W=wr/\∃ k:Nat,k<=b.pockets.length/\i=.int .i64 k/\∃ n:Int,1<=n/\n<=1000/\vn=.int .i64 n) (fun _ i _=>b.pockets.length - (intOf i).toNat)
 case atStart=>exact ⟨rfl,0,Nat.zero_le _,rfl,1,by omega,by omega,rfl⟩
 case round =>
  obtain ⟨rfl,k,hk,rfl,n,hn1,hn2,rfl⟩:=hrel
  by_cases hlt:k<b.pockets.length
  ·have hkI:(k:Int)<b.pockets.length:=by omega
   obtain ⟨b5,o5,hA,hb5,hc5⟩:=pocket_row HB.out.pockets (by omega)
   have c2:=(hc5 k hlt).2.2;clear hc5;rw [hA] at x24;rw [hA];clear hA;generalize (b.pockets.getD k (0,0,0)).2.2=x at *
   by_cases h1:x<0
   ·go_wp2_with fail;go_roundw
    case rel=>exact ⟨trivial,k+1,by omega,by go_num,n,hn1,hn2,rfl⟩
    case measure=>simp [intOf];omega
   ·by_cases h2:255<x
    ·have h2':x > 255:=h2;go_wp2_with fail;go_roundw
     case rel=>exact ⟨trivial,k+1,by omega,by go_num,n,hn1,hn2,rfl⟩
     case measure=>simp [intOf];omega
    ·have h2':¬ x > 255:=h2;have hm1:n*1<=n*(x+1):=Int.mul_le_mul_of_nonneg_left (by omega) (by omega)
     have hm2:n*(x+1)<=1000*256:=Int.mul_le_mul hn2 (by omega) (by omega) (by omega)
     have hw1:=IntWalk.i64_in (x+1) (by omega)
     have hw2:=IntWalk.i64_in (n*(x+1)) (by omega)
     by_cases h3:n*(x+1) > 1000
     ·go_wp2_with fail;go_ret;exact ⟨hbW,_,rfl,fun h=>by cases h⟩
     ·go_wp2_with fail;go_roundw
      case rel=>exact ⟨trivial,k+1,by omega,by go_num,_,by omega,by omega,rfl⟩
      case measure=>simp [intOf];omega
  ·obtain rfl:k=b.pockets.length:=by omega
   clear hn1 hn2;go_wp2_with fail;go_loopw [5] (fun i wr=>W=wr/\∃ k:Nat,k<=b.reach.length/\i=.int .i64 k/\Hid (∀ j,j<k->(b.reach.getD j []).length<=70)) (fun i _=>b.reach.length - (intOf i).toNat)
   case atStart=>exact ⟨rfl,0,Nat.zero_le _,rfl,fun j h=>absurd h (by omega)⟩
   case round =>
    obtain ⟨rfl,k,hk,rfl,hall⟩:=hrel
    by_cases hlt:k<b.reach.length
    ·have hkI:(k:Int)<b.reach.length:=by omega
     obtain ⟨b5,o5,hA,hb5,hc5⟩:=row_cell HB.out.reach (by omega)
     have c0:=hc5 k hlt;have hl:=HRR.out k hlt;have HN:Hid ((b.reach.getD k []).length<=70->∀ j,j<k+1->(b.reach.getD j []).length<=70):=fun h j hj=>by
      rcases Nat.lt_or_ge j k with g | g
      ·exact hall.out j g
      ·obtain rfl:j=k:=by omega
       exact h
     unfold rowV at c0;clear hc5 hall;rw [hA] at x22;rw [hA];clear hA;generalize (z.rrows.getD k (none,0)).1=A at *;generalize (z.rrows.getD k (none,0)).2=cc at *;generalize (b.reach.getD k []).length=m at *
     by_cases h7:m<=70
     ·have h7':¬ (m:Int) > 70:=by omega
      have HN2:=Hd (HN.out h7);clear HN;go_wp2_with fail;go_roundw
      case rel=>exact ⟨trivial,k+1,by omega,by go_num,HN2⟩
      case measure=>simp [intOf];omega
     ·have h7':(m:Int) > 70:=by omega
      clear HN;go_wp2_with fail;go_ret;exact ⟨hbW,_,rfl,fun h=>by cases h⟩
    ·obtain rfl:k=b.reach.length:=by omega
     have HALL:=Hd (all_len hall.out);clear hall;go_wp2_with fail;go_loopw [6] (fun i wr=>W=wr/\∃ k:Nat,k<=b.drive.length/\i=.int .i64 k/\Hid (∀ j,j<k->(b.drive.getD j []).length<=10)) (fun i _=>b.drive.length - (intOf i).toNat)
     case atStart=>exact ⟨rfl,0,Nat.zero_le _,rfl,fun j h=>absurd h (by omega)⟩
     case round =>
      obtain ⟨rfl,k,hk,rfl,hall⟩:=hrel
      by_cases hlt:k<b.drive.length
      ·have hkI:(k:Int)<b.drive.length:=by omega
       obtain ⟨b5,o5,hA,hb5,hc5⟩:=row_cell HB.out.drive (by omega)
       have c0:=hc5 k hlt;have hl:=HDD.out k hlt;have HN:Hid ((b.drive.getD k []).length<=10->∀ j,j<k+1->(b.drive.getD j []).length<=10):=fun h j hj=>by
        rcases Nat.lt_or_ge j k with g | g
        ·exact hall.out j g
        ·obtain rfl:j=k:=by omega
         exact h
       unfold rowV at c0;clear hc5 hall;rw [hA] at x8;rw [hA];clear hA;generalize (z.rows.getD k (none,0)).1=A at *;generalize (z.rows.getD k (none,0)).2=cc at *;generalize (b.drive.getD k []).length=m at *
       by_cases h7:m<=10
       ·have h7':¬ (m:Int) > 10:=by omega
        have HN2:=Hd (HN.out h7);clear HN;go_wp2_with fail;go_roundw
        case rel=>exact ⟨trivial,k+1,by omega,by go_num,HN2⟩
        case measure=>simp [intOf];omega
       ·have h7':(m:Int) > 10:=by omega
        clear HN;go_wp2_with fail;go_ret;exact ⟨hbW,_,rfl,fun h=>by cases h⟩
      ·obtain rfl:k=b.drive.length:=by omega
       have HALD:=Hd (all_len hall.out);clear hall
       by_cases h1:b.reach.length<=20
       ·have h1':(b.reach.length:Int)<=20:=by omega
        by_cases h2:b.drive.length<=20
        ·have h2':(b.drive.length:Int)<=20:=by omega
         go_wp2_with fail;go_ret;exact ⟨hbW,_,rfl,fun _=>⟨h1,h2,HALL.out,HALD.out⟩⟩
        ·have h2':¬ (b.drive.length:Int)<=20:=by omega
         go_wp2_with fail;go_ret;exact ⟨hbW,_,rfl,fun h=>by simp at h⟩
       ·have h1':¬ (b.reach.length:Int)<=20:=by omega
        go_wp2_with fail;go_ret;exact ⟨hbW,_,rfl,fun h=>by simp at h⟩
theorem wpList_load_rowG {P:Program} {ops:Array Oper} {rest:List Oper} {o:Oper} {a:Act} {w:World} {Q:Exit->Act->World->Prop} (hw:Region.wanted o (yielded ops a.tmps)=true) (ty:TypeId) (x:Operand) (ho:o.op=.load ty x)
  (g:Nat) (hx:a.eval x=.pointer (some ⟨g,0,none⟩)) (t:TypeId) (cs:Array Value) (d:TypeDesc) (hg:Bk w g t cs)
  (hu:P.underlying ty=some d) (hd:(match d with | .struct _ | .array _ _=>true | _=>false)=true) (hi:(P.info? ty).map (·.size)=some cs.size)
  (h:wpList P ops Q rest (a.put o.dst (.agg cs)) w):wpList P ops Q (o :: rest) a w:=by
 unfold wpList;rw [if_pos hw];exact .inl (wp_load_row ty x ho g hx t cs (0,0) d hg hu hd hi h)
def heapN (l:List EvD):Int:=l.foldl (fun n e=>if 1<=e.note.hlo/\e.note.hhi<=255/\e.note.hlo<=e.note.hhi then n*(e.note.hhi - e.note.hlo+1) else n) 1
def FewP (b:Al) (H E:List EvD) (w:World) (e:Ending) (w':World):Prop :=
 Below w.heap.size w w'/\∃ v:Bool,e=.returned (.bool v)/\(v=true->b.Few/\H.length<=8/\E.length<=10/\heapN H<=12/\∀ e∈E,e.note.strokes.length<=100)
theorem heapN_take (H:List EvD) (k:Nat) (hk:k<H.length):heapN (H.take (k+1))=if 1<=(H.getD k ev0).note.hlo/\(H.getD k ev0).note.hhi<=255/\(H.getD k ev0).note.hlo<=(H.getD k ev0).note.hhi then heapN (H.take k)*((H.getD k ev0).note.hhi - (H.getD k ev0).note.hlo+1) else heapN (H.take k):=by
 unfold heapN;rw [List.take_succ_eq_append_getElem hk,List.foldl_append,Aj _ _ hk];rfl
theorem Hi {b:Al} {H E:List EvD} {w W:World} (hb:Below w.heap.size w W):FewP b H E w (.returned (.bool false)) W:=⟨hb,false,rfl,fun h=>by cases h⟩
theorem few_any (b:Al) (z:Df) (A1 A2 A3:Option Addr) (c1 c2 n3 c3:Nat) (H E:List EvD) (w:World) (hb:Fa w b z) (hH:Ad w A1 (Ak H)) (hE:Ad w A2 (Ak E))
  (hs:∀ e∈E,e.note.strokes.length<=1000) (hHl:H.length<=9223372036854775807)
  (hr:b.reach.length<=9223372036854775807) (hd:b.drive.length<=9223372036854775807)
  (hrr:∀ k,k<b.reach.length->(b.reach.getD k []).length<=9223372036854775807) (hdd:∀ k,k<b.drive.length->(b.drive.getD k []).length<=9223372036854775807) :
  Calls Tryz.prog 16 #[.agg (b.arr z),Dv A1 H.length c1 A2 E.length c2 A3 n3 c3] w (FewP b H E w):=by
 have HFL:=Hd (fun (X:World) (h:Below w.heap.size w X) (hp:b.pockets.length<=4)=>fewLeads_any b z X (hb.below h) hp hr hd hrr hdd)
 have HLE:=Hd (fun (X:World) (h:Below w.heap.size w X) (hl:E.length<=10)=>lightEvents_any A1 A2 A3 H.length c1 c2 n3 c3 E X (hE.below h) hl hs)
 obtain ⟨W,hW⟩:∃ W,(w.alloc (.cells (b.arr z) 41)).alloc (.cells #[.slice A1 H.length c1,.slice A2 E.length c2,.slice A3 n3 c3] 49)=W:=⟨_,rfl⟩;have hbW:Below w.heap.size w W:=by rw [<- hW];exact Ba.alloc (by simp) _
 have X:=(show Bk W w.heap.size 41 (b.arr z) by rw [<- hW];exact (Aa rfl).alloc _)
 have Y:=(show Bk W (w.heap.size+1) 49 #[.slice A1 H.length c1,.slice A2 E.length c2,.slice A3 n3 c3] by rw [<- hW];exact Aa (by simp))
 have HX:=Hd X;have HY:=Hd Y;unfold Dv at *;have HW:=Hd hW;have HH:=Hd (hH.below hbW);have hsW:W.heap.size=w.heap.size+2:=by rw [<- hW];simp
 have hsW':w.heap.size+1<W.heap.size:=by omega
 have hsW'':w.heap.size<W.heap.size:=by omega
 clear hsW hs hr hd hrr hdd hb hE hH;have x0:=X.cell 0;have x1:=X.cell 1;have x2:=X.cell 2;have x3:=X.cell 3;have x7:=X.cell 7;have x11:=X.cell 11;have x14:=X.cell 14;have x15:=X.cell 15;have x16:=X.cell 16;have x17:=X.cell 17;have x21:=X.cell 21;have x23:=X.cell 23;have x24:=X.cell 24;have x26:=X.cell 26;have y0:=Y.cell 0;have y1:=Y.cell 1;simp [Al.arr] at x0 x1 x2 x3 x7 x11 x14 x15 x16 x17 x21 x23 x24 x26 y0 y1;clear hW X Y;go_enter Tryz.func16,Tryz.ntmps16;go_upto_region 1 with fail
 rw [HW.out];clear HW
 by_cases h0:b.bed.rings > 4
 ·go_wp2_with fail;go_ret;exact Hi (hbW.alloc (by omega) _)
 by_cases h1:b.bed.sec > 6
 ·go_wp2_with fail;go_ret;exact Hi (hbW.alloc (by omega) _)
 by_cases h2:(b.run.kinds.length:Int) > 24
 ·go_wp2_with fail;go_ret;exact Hi (hbW.alloc (by omega) _)
 by_cases h3:(b.bed.kinds.length:Int) > 24
 ·go_wp2_with fail;go_ret;exact Hi (hbW.alloc (by omega) _)
 by_cases h4:(b.grades.length:Int) > 20
 ·go_wp2_with fail;go_ret;exact Hi (hbW.alloc (by omega) _)
 by_cases h5:(b.caps.length:Int) > 8
 ·go_wp2_with fail;go_ret;exact Hi (hbW.alloc (by omega) _)
 by_cases h6:(b.pockets.length:Int) > 4
 ·go_wp2_with fail;go_ret;exact Hi (hbW.alloc (by omega) _)
 by_cases h7:(b.compass.length:Int) > 20
 ·go_wp2_with fail;go_ret;exact Hi (hbW.alloc (by omega) _)
 by_cases h8:(b.meshes.length:Int) > 20
 ·go_wp2_with fail;go_ret;exact Hi (hbW.alloc (by omega) _)
 have HF:=Hd (Ai h0 (Ai h1 (Ai h2 (Ai h3 (Ai h4 (Ai h5 (Ai h6 (Ai h7 h8))))))));have X2:=HX.out.alloc (.cells #[.int .i64 b.bed.eye,.int .i64 b.bed.rings,.int .i64 b.bed.sec,.slice z.bed.1 b.bed.kinds.length z.bed.2] 24);have Y2:=HY.out.alloc (.cells #[.int .i64 b.bed.eye,.int .i64 b.bed.rings,.int .i64 b.bed.sec,.slice z.bed.1 b.bed.kinds.length z.bed.2] 24);have hb2:=hbW.alloc (show w.heap.size<=W.heap.size by omega) (.cells #[.int .i64 b.bed.eye,.int .i64 b.bed.rings,.int .i64 b.bed.sec,.slice z.bed.1 b.bed.kinds.length z.bed.2] 24)
 have hH2:=Hd (HH.out.below ((Below.refl _ _).alloc Le (.cells #[.int .i64 b.bed.eye,.int .i64 b.bed.rings,.int .i64 b.bed.sec,.slice z.bed.1 b.bed.kinds.length z.bed.2] 24)));go_wp2_with fail;clear x0 x1 x2 x3 x7 x11 x14 x15 x16 x17 x21 x23 x24 x26 y0 y1;generalize W.alloc _=V at *;go_loopw [6] (fun i wr=>V=wr/\∃ k:Nat,k<=2/\i=.int .i64 k/\Hid ((0<k->b.s0.length<=40/\b.a0.length<=40)/\(1<k->b.s1.length<=40/\b.a1.length<=40))) (fun i _=>2 - (intOf i).toNat)
 case atStart=>exact ⟨rfl,0,Nat.zero_le _,rfl,fun h=>absurd h (by omega),fun h=>absurd h (by omega)⟩
 case round =>
  obtain ⟨rfl,k,hk,rfl,hall⟩:=hrel;have x14:=X2.cell 14;have x15:=X2.cell 15;have x16:=X2.cell 16;have x17:=X2.cell 17;simp [Al.arr] at x14 x15 x16 x17;have hk3:k=0\/k=1\/k=2:=by omega
  rcases hk3 with rfl | rfl | rfl
  ·by_cases g1:(b.s0.length:Int) > 40
   ·go_wp2_with fail;go_ret;exact Hi hb2
   ·by_cases g2:(b.a0.length:Int) > 40
    ·go_wp2_with fail;go_ret;exact Hi hb2
    ·have HN:Hid ((0<1->b.s0.length<=40/\b.a0.length<=40)/\(1<1->b.s1.length<=40/\b.a1.length<=40)):=⟨fun _=>by omega,fun h=>absurd h (by omega)⟩
     go_wp2_with fail;go_roundw
     case rel=>exact ⟨trivial,1,by omega,by go_num,HN⟩
     case measure=>simp [intOf]
  ·by_cases g1:(b.s1.length:Int) > 40
   ·go_wp2_with fail;go_ret;exact Hi hb2
   ·by_cases g2:(b.a1.length:Int) > 40
    ·go_wp2_with fail;go_ret;exact Hi hb2
    ·have HN:Hid ((0<2->b.s0.length<=40/\b.a0.length<=40)/\(1<2->b.s1.length<=40/\b.a1.length<=40)):=⟨fun _=>hall.out.1 (by omega),fun _=>by omega⟩
     go_wp2_with fail;go_roundw
     case rel=>exact ⟨trivial,2,by omega,by go_num,HN⟩
     case measure=>simp [intOf]
  ·clear x14 x15 x16 x17;have y0:=Y2.cell 0;have y1:=Y2.cell 1;simp at y0 y1;have HST:=Hd (Ai (hall.out.1 (by omega)) (hall.out.2 (by omega)))
   have HV:=Hd (Ai X2 (Ai Y2 hb2));have hB0:=Below.refl V.heap.size V;clear hall X2 Y2 hb2;go_wp2_with fail;clear y0 y1;go_loopw [7,8] (fun vn vi wr=>∃ k:Nat,k<=H.length/\vi=.int .i64 k/\∃ n:Int,vn=.int .i64 n/\1<=n/\n<=12/\Hid (heapN (H.take k)=n)/\Below V.heap.size V wr) (fun _ i _=>H.length - (intOf i).toNat)
   case atStart=>exact ⟨0,Nat.zero_le _,rfl,1,rfl,by omega,by omega,rfl,hB0⟩
   case round =>
    obtain ⟨k,hk,rfl,n,rfl,hn1,hn2,hn,hB⟩:=hrel;clear hB0;obtain ⟨X2,Y2,hb2⟩:=HV.out;replace X2:=X2.keep hB;replace Y2:=Y2.keep hB;replace hb2:=hb2.trans (hB.mono hb2.size);have y0:=Y2.cell 0;have y1:=Y2.cell 1;simp at y0 y1
    by_cases hlt:k<H.length
    ·have hkI:(k:Int)<H.length:=by omega
     obtain ⟨b5,o5,hA,hb5,hc5⟩:=ev_row (hH2.out.below hB) (by omega)
     have c10:=hc5 k hlt 10 (.int .i64 (H.getD k ev0).note.hlo) rfl;have c11:=hc5 k hlt 11 (.int .i64 (H.getD k ev0).note.hhi) rfl;have hlb5:b5<wr.heap.size:=hb5;have HT:=heapN_take H k hlt;rw [hn.out] at HT;have HT:=Hd HT;rw [hA] at y0;rw [hA];have HB:=Hd (Ai hB hb2);clear hA hc5 X2 Y2 hn hB hb2;generalize (H.getD k ev0).note.hlo=lo at *;generalize (H.getD k ev0).note.hhi=hi at *
     by_cases q1:lo<1
     ·go_wp2_with fail;go_roundw
      case rel=>exact ⟨k+1,by omega,by go_num,n,rfl,hn1,hn2,by rw [HT.out,if_neg (by omega)];exact Hd rfl,HB.out.1.alloc HB.out.1.size _⟩
      case measure=>simp [intOf];omega
     ·by_cases q2:hi > 255
      ·go_wp2_with fail;go_roundw
       case rel=>exact ⟨k+1,by omega,by go_num,n,rfl,hn1,hn2,by rw [HT.out,if_neg (by omega)];exact Hd rfl,HB.out.1.alloc HB.out.1.size _⟩
       case measure=>simp [intOf];omega
      ·by_cases q3:lo > hi
       ·go_wp2_with fail;go_roundw
        case rel=>exact ⟨k+1,by omega,by go_num,n,rfl,hn1,hn2,by rw [HT.out,if_neg (by omega)];exact Hd rfl,HB.out.1.alloc HB.out.1.size _⟩
        case measure=>simp [intOf];omega
       ·have hm1:n*1<=n*(hi - lo+1):=Int.mul_le_mul_of_nonneg_left (by omega) (by omega)
        have hm2:n*(hi - lo+1)<=12*255:=Int.mul_le_mul hn2 (by omega) (by omega) (by omega)
        have hw0:=IntWalk.i64_in (hi - lo) (by omega)
        have hw1:=IntWalk.i64_in (hi - lo+1) (by omega)
        have hw2:=IntWalk.i64_in (n*(hi - lo+1)) (by omega)
        rw [if_pos (by omega)] at HT
        by_cases q4:n*(hi - lo+1) > 12
        ·go_wp2_with fail;go_ret;exact Hi (HB.out.2.alloc HB.out.2.size _)
        ·go_wp2_with fail;go_roundw
         case rel=>exact ⟨k+1,by omega,by go_num,_,rfl,by omega,by omega,HT,HB.out.1.alloc HB.out.1.size _⟩
         case measure=>simp [intOf];omega
    ·obtain rfl:k=H.length:=by omega
     rw [List.take_of_length_le Le] at hn;clear hlt hk
     by_cases q1:H.length<=8
     ·have q1':(H.length:Int)<=8:=by omega
      by_cases q2:E.length<=10
      ·have q2':(E.length:Int)<=10:=by omega
       have HL:=Hd (HLE.out wr hb2 q2);have y2:=Y2.cell 2;simp at y2;have HPO:=Hd (Ai hn2 hn);clear hn1 hn2 hn;cases q3:decide (lightN E<=100) with
       | false =>
        rw [q3] at HL;have HB2:=Hd hb2;clear q3 X2 Y2 hB hb2;go_wp2_with (go_at_call 31;refine HL.out.mono ?_;rintro e w1 ⟨rfl,hb1⟩);go_ret;exact Hi (HB2.out.trans (hb1.mono HB2.out.size))
       | true =>
        rw [q3] at HL;have q3:lightN E<=100:=by simpa using q3
        have HQ3:=Hd q3;have HB2:=Hd hb2;have hlw:=X2.lt;have hp4:b.pockets.length<=4:=by have:=HF.out;omega
        have HX2:=Hd X2;clear q3 X2 Y2 hB hb2;go_wp2_with (first | (go_at_call 31;refine HL.out.mono ?_;rintro e w1 ⟨rfl,hb1⟩;have hld:=HX2.out.keep hb1) | (refine wpList_load_rowG (by rfl) 41 (.tmp 2) rfl w.heap.size rfl 41 (b.arr z) _ hld Tryz.underlying41 rfl (by kernel_rfl) ?_;clear hld) | (go_at_call 32;refine (HFL.out _ (HB2.out.trans (hb1.mono HB2.out.size)) hp4).mono ?_;rintro e w2 ⟨hb5,v,rfl,hv⟩))
        go_ret;refine ⟨(HB2.out.trans (hb1.mono HB2.out.size)).trans (hb5.mono (HB2.out.trans (hb1.mono HB2.out.size)).size),v,rfl,fun hvt=>?_⟩
        obtain ⟨v1,v2,v3,v4⟩:=hv hvt;obtain ⟨f0,f1,f2,f3,f4,f5,f6,f7,f8⟩:=HF.out;obtain ⟨⟨g1,g2⟩,g3,g4⟩:=HST.out;refine ⟨⟨by omega,by omega,by omega,by omega,by omega,by omega,by omega,by omega,by omega,g1,g3,g2,g4,v1,v3,v2,v4⟩,q1,q2,by rw [HPO.out.2.out];exact HPO.out.1,fun x hx=>Nat.le_trans (lightN_le E x hx) HQ3.out⟩
      ·have q2':¬ (E.length:Int)<=10:=by omega
       clear hn1 hn2 hn X2 hB;go_wp2_with fail;go_ret;exact Hi hb2
     ·have q1':¬ (H.length:Int)<=8:=by omega
      clear hn1 hn2 hn X2 hB;go_wp2_with fail;go_ret;exact Hi hb2
end Go.Proofs.YteihcodicfoiaaaGreat
