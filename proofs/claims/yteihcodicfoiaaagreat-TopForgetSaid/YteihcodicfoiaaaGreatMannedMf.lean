/-
  What is proved: the contracts of ValidCrew and manned.
-/
import Derived.Test.YteihcodicfoiaaaGreat8Mf
import Derived.Test.YteihcodicfoiaaaGreatFewMf
namespace Go.Proofs.YteihcodicfoiaaaGreat
set_option maxRecDepth 100000
set_option maxHeartbeats 2000000
open Go Go.RowKit
theorem manned11_any (b:Al) (z:Df) (q:Nat) (line:Int) (w:World) (hq:Bk w q 41 (b.arr z)) (hr:0<=b.bed.rings/\b.bed.rings<=24) :
  Calls Tryz.prog 109 #[.int .i64 line,.pointer (some ⟨q,0,none⟩)] w fun e w'=>e=.returned (.bool (decide (line>=2*b.bed.rings)))/\Below w.heap.size w w':=by
 have x1:=hq.cell 1;simp [Al.arr] at x1;have hB:=Below.refl w.heap.size w;generalize b.bed.rings=r at *;clear hq;go_enter Tryz.func109,Tryz.ntmps109;go_wp2_with fail;go_ret;exact ⟨rfl,hB⟩
theorem line_ix (q:Nat) (A:Option Addr) (c n:Nat) (el:Nat->List Value) (bad:Nat->Bool) (w:World) (hrow:Hw w A 1 n el) (hn:n<=9223372036854775807)
  (hcall:∀ X,Below w.heap.size w X->∀ k,k<n->Calls Tryz.prog 109 (#[(el k).getD 0 undef] ++ #[.pointer (some ⟨q,0,none⟩)]) X fun e w'=>e=.returned (.bool (bad k))/\Below X.heap.size X w') :
  Calls Tryz.prog 156 #[.slice A n c,.func (.func 109) #[] #[.pointer (some ⟨q,0,none⟩)]] w fun e w'=>e=.returned (.int .i64 (Cs bad n))/\Below w.heap.size w w':=by
 have HR:=Hd hrow;have HC:=Hd hcall;clear hrow hcall;have hB0:=Below.refl w.heap.size w;go_enter Tryz.func156,Tryz.ntmps156;go_wp2_with fail;go_loopw [8] (fun i wr=>∃ k:Nat,k<=n/\i=.int .i64 k/\Below w.heap.size w wr/\Hid (∀ j,j<k->bad j=false)) (fun i _=>n - (intOf i).toNat)
 case atStart=>exact ⟨0,Nat.zero_le _,rfl,hB0,fun j h=>absurd h (by omega)⟩
 case round =>
  obtain ⟨k,hk,rfl,hBr,hall⟩:=hrel;clear hB0
  by_cases hlt:k<n
  ·have hkI:(k:Int)<n:=by omega
   obtain ⟨b5,o5,hA,hb5,hc5⟩:=(HR.out.below hBr).2 (by omega)
   have hlen:=HR.out.1 k hlt;have HE:=Hd (HC.out wr hBr k hlt);obtain ⟨u0,hel⟩:=list1_of hlen;have c0:wr.cell? ⟨b5,o5+k,none⟩=some u0:=by have:=hc5 k hlt 0 u0 (by rw [hel];rfl);simpa using this
   rw [hel] at HE;change Hid (Calls Tryz.prog 109 #[u0,.pointer (some ⟨q,0,none⟩)] wr _) at HE;have HF:Hid (bad k=true->Cs bad n=k):=fun h=>Es hlt hall.out h
   have HN:Hid (bad k=false->∀ j,j<k+1->bad j=false):=fun h=>Fq hall.out h
   rw [hA];clear hA hc5 hlen hel hall;cases hs:bad k
   ·rw [hs] at HE;have HN2:=Hd (HN.out hs);clear HN HF hs;go_wp2_with (go_at_call 109;refine HE.out.mono ?_;rintro e w1 ⟨rfl,hb1⟩);have hB1:=hBr.trans (hb1.mono hBr.size);go_roundw
    case rel=>exact ⟨k+1,by omega,by go_num,hB1,HN2⟩
    case measure=>simp [intOf];omega
   ·rw [hs] at HE;have HF2:=Hd (HF.out hs);clear HN HF hs;go_wp2_with (go_at_call 109;refine HE.out.mono ?_;rintro e w1 ⟨rfl,hb1⟩);go_ret;exact ⟨Cb HF2.out.symm,hBr.trans (hb1.mono hBr.size)⟩
  ·obtain rfl:k=n:=by omega
   have HF:=Hd (Ea hall.out);clear hall;go_wp2;go_ret;exact ⟨Cb HF.out.symm,hBr⟩
theorem line_has (q:Nat) (A:Option Addr) (c n:Nat) (el:Nat->List Value) (bad:Nat->Bool) (w:World) (hrow:Hw w A 1 n el) (hn:n<=9223372036854775807)
  (hcall:∀ X,Below w.heap.size w X->∀ k,k<n->Calls Tryz.prog 109 (#[(el k).getD 0 undef] ++ #[.pointer (some ⟨q,0,none⟩)]) X fun e w'=>e=.returned (.bool (bad k))/\Below X.heap.size X w') :
  Calls Tryz.prog 108 #[.slice A n c,.func (.func 109) #[] #[.pointer (some ⟨q,0,none⟩)]] w fun e w'=>e=.returned (.bool (Fd bad n))/\Below w.heap.size w w':=by
 have HI:=Hd (line_ix q A c n el bad w hrow hn hcall);have HG:=Hd (Et bad n);clear hrow hcall;go_enter Tryz.func108,Tryz.ntmps108;go_wp2_with (go_at_call 156;refine HI.out.mono ?_;rintro e w1 ⟨rfl,hb1⟩);go_ret;exact ⟨Af HG.out,hb1⟩
theorem manned1_any (b:Al) (z:Df) (q:Nat) (A:Option Addr) (c:Nat) (l:List Int) (w:World) (hq:Bk w q 41 (b.arr z)) (hr:0<=b.bed.rings/\b.bed.rings<=24) (hL:Ad w A (Ac l)) (hn:l.length<=1000) :
  Calls Tryz.prog 107 #[.slice A l.length c,.pointer (some ⟨q,0,none⟩)] w fun e w'=>e=.returned (.bool (Fd (fun j=>decide (l.getD j 0>=2*b.bed.rings)) l.length))/\Below w.heap.size w w':=by
 have HC:=Hd (line_has q A c l.length _ (fun j=>decide (l.getD j 0>=2*b.bed.rings)) w (Hw.of_ints hL) (by omega) (fun V hV k hk=>manned11_any b z q (l.getD k 0) V (hq.keep hV) hr))
 generalize Fd (fun j=>decide (l.getD j 0>=2 * b.bed.rings)) l.length=v at *
 clear hq hr hL;go_enter Tryz.func107,Tryz.ntmps107;go_wp2_with (go_at_call 108;refine HC.out.mono ?_;rintro e w1 ⟨rfl,hb1⟩);go_ret;exact ⟨rfl,hb1⟩
theorem rows_ix (q:Nat) (A:Option Addr) (c n:Nat) (el:Nat->List Value) (bad:Nat->Bool) (w:World) (hrow:Hw w A 1 n el) (hn:n<=9223372036854775807)
  (hcall:∀ X,Below w.heap.size w X->∀ k,k<n->Calls Tryz.prog 107 (#[(el k).getD 0 undef] ++ #[.pointer (some ⟨q,0,none⟩)]) X fun e w'=>e=.returned (.bool (bad k))/\Below X.heap.size X w') :
  Calls Tryz.prog 155 #[.slice A n c,.func (.func 107) #[] #[.pointer (some ⟨q,0,none⟩)]] w fun e w'=>e=.returned (.int .i64 (Cs bad n))/\Below w.heap.size w w':=by
 have HR:=Hd hrow;have HC:=Hd hcall;clear hrow hcall;have hB0:=Below.refl w.heap.size w;go_enter Tryz.func155,Tryz.ntmps155;go_wp2_with fail;go_loopw [8] (fun i wr=>∃ k:Nat,k<=n/\i=.int .i64 k/\Below w.heap.size w wr/\Hid (∀ j,j<k->bad j=false)) (fun i _=>n - (intOf i).toNat)
 case atStart=>exact ⟨0,Nat.zero_le _,rfl,hB0,fun j h=>absurd h (by omega)⟩
 case round =>
  obtain ⟨k,hk,rfl,hBr,hall⟩:=hrel;clear hB0
  by_cases hlt:k<n
  ·have hkI:(k:Int)<n:=by omega
   obtain ⟨b5,o5,hA,hb5,hc5⟩:=(HR.out.below hBr).2 (by omega)
   have hlen:=HR.out.1 k hlt;have HE:=Hd (HC.out wr hBr k hlt);obtain ⟨u0,hel⟩:=list1_of hlen;have c0:wr.cell? ⟨b5,o5+k,none⟩=some u0:=by have:=hc5 k hlt 0 u0 (by rw [hel];rfl);simpa using this
   rw [hel] at HE;change Hid (Calls Tryz.prog 107 #[u0,.pointer (some ⟨q,0,none⟩)] wr _) at HE;have HF:Hid (bad k=true->Cs bad n=k):=fun h=>Es hlt hall.out h
   have HN:Hid (bad k=false->∀ j,j<k+1->bad j=false):=fun h=>Fq hall.out h
   rw [hA];clear hA hc5 hlen hel hall;cases hs:bad k
   ·rw [hs] at HE;have HN2:=Hd (HN.out hs);clear HN HF hs;go_wp2_with (go_at_call 107;refine HE.out.mono ?_;rintro e w1 ⟨rfl,hb1⟩);have hB1:=hBr.trans (hb1.mono hBr.size);go_roundw
    case rel=>exact ⟨k+1,by omega,by go_num,hB1,HN2⟩
    case measure=>simp [intOf];omega
   ·rw [hs] at HE;have HF2:=Hd (HF.out hs);clear HN HF hs;go_wp2_with (go_at_call 107;refine HE.out.mono ?_;rintro e w1 ⟨rfl,hb1⟩);go_ret;exact ⟨Cb HF2.out.symm,hBr.trans (hb1.mono hBr.size)⟩
  ·obtain rfl:k=n:=by omega
   have HF:=Hd (Ea hall.out);clear hall;go_wp2;go_ret;exact ⟨Cb HF.out.symm,hBr⟩
theorem rows_has (q:Nat) (A:Option Addr) (c n:Nat) (el:Nat->List Value) (bad:Nat->Bool) (w:World) (hrow:Hw w A 1 n el) (hn:n<=9223372036854775807)
  (hcall:∀ X,Below w.heap.size w X->∀ k,k<n->Calls Tryz.prog 107 (#[(el k).getD 0 undef] ++ #[.pointer (some ⟨q,0,none⟩)]) X fun e w'=>e=.returned (.bool (bad k))/\Below X.heap.size X w') :
  Calls Tryz.prog 106 #[.slice A n c,.func (.func 107) #[] #[.pointer (some ⟨q,0,none⟩)]] w fun e w'=>e=.returned (.bool (Fd bad n))/\Below w.heap.size w w':=by
 have HI:=Hd (rows_ix q A c n el bad w hrow hn hcall);have HG:=Hd (Et bad n);clear hrow hcall;go_enter Tryz.func106,Tryz.ntmps106;go_wp2_with (go_at_call 155;refine HI.out.mono ?_;rintro e w1 ⟨rfl,hb1⟩);go_ret;exact ⟨Af HG.out,hb1⟩
def crewBad (caps:List Int) (reach:List (List Int)) (k:Nat):Bool:=!inB (caps.getD k 0) 1 100000 || !risingB (reach.getD k []) 63
def crewB (caps:List Int) (reach:List (List Int)):Bool:=decide (caps.length<=16) && decide (reach.length=caps.length) && (List.range caps.length).all (fun k=>!crewBad caps reach k)
theorem validCrew_any (A1 A2:Option Addr) (c1 c2:Nat) (caps:List Int) (reach:List (List Int)) (rows:List Sl) (w:World) (h1:Ad w A1 (Ac caps)) (h2:Ad w A2 ((List.range reach.length).map (rowV rows reach)))
  (h3:∀ i,i<reach.length->Ad w (rows.getD i (none,0)).1 (Ac (reach.getD i []))) (l1:caps.length<=8) (l2:reach.length<=20) (l3:∀ l∈reach,l.length<=70) :
  Calls Tryz.prog 105 #[.agg #[.slice A1 caps.length c1,.slice A2 reach.length c2]] w fun e w'=>e=.returned (.bool (crewB caps reach))/\Below w.heap.size w w':=by
 obtain ⟨W,hW⟩:∃ W,w.alloc (.cells #[.slice A1 caps.length c1,.slice A2 reach.length c2] 34)=W:=⟨_,rfl⟩;have hbW:Below w.heap.size w W:=by rw [<- hW];exact Ba
 have X:=(show Bk W w.heap.size 34 #[.slice A1 caps.length c1,.slice A2 reach.length c2] by rw [<- hW];exact Aa rfl)
 have x0:=X.cell 0;have x1:=X.cell 1;simp at x0 x1;have H1:=Hd (h1.below hbW);have H2:=Hd (h2.below hbW);have H3:=Hd (fun i hi=>(h3 i hi).below hbW)
 have L3:=Hd l3;have HW:=Hd hW;clear hW X h1 h2 h3 l3
 by_cases g1:reach.length=caps.length
 ·have g1':((reach.length:Int) != caps.length)=false:=by simp [g1]
  have HG:=Hd g1;have g1a:reach.length<=caps.length:=by omega
  have g1b:caps.length<=reach.length:=by omega
  clear g1;go_enter Tryz.func105,Tryz.ntmps105;go_upto_region 1 with fail
  rw [HW.out];clear HW;go_wp2_with fail;go_loopw [21] (fun i wr=>∃ k:Nat,k<=caps.length/\i=.int .i64 k/\Hid (∀ j,j<k->crewBad caps reach j=false)/\W=wr) (fun i _=>caps.length - (intOf i).toNat)
  case atStart=>exact ⟨0,Nat.zero_le _,rfl,fun j h=>absurd h (by omega),rfl⟩
  case round =>
   obtain ⟨k,hk,rfl,hall,rfl⟩:=hrel
   by_cases hlt:k<caps.length
   ·have hkI:(k:Int)<caps.length:=by omega
    have hkR:(k:Int)<reach.length:=by omega
    obtain ⟨b5,o5,hA5,hb5,hc5⟩:=Jb H1.out (by omega)
    obtain ⟨b6,o6,hA6,hb6,hc6⟩:=row_cell H2.out (by omega)
    have c5:=hc5 k hlt;have c6:=hc6 k (by omega)
    have HRS:=Hd (rising_any (rows.getD k (none,0)).1 (rows.getD k (none,0)).2 (reach.getD k []) 63 W (H3.out k (by omega)) (by have:=L3.out _ (Cg [] (show k<reach.length by omega));omega))
    have HF:Hid (crewBad caps reach k=true->crewB caps reach=false):=fun h=>by unfold crewB;rw [all_bad hlt h];simp
    have HN:Hid (crewBad caps reach k=false->∀ j,j<k+1->crewBad caps reach j=false):=fun h=>Fq hall.out h
    have HV:Hid (crewBad caps reach k=(!inB (caps.getD k 0) 1 100000 || !risingB (reach.getD k []) 63)):=rfl
    unfold rowV at c6;rw [hA5] at x0;rw [hA6] at x1;rw [hA5,hA6];clear hA5 hA6 hc5 hc6 hall;generalize (rows.getD k (none,0)).1=A at *;generalize (rows.getD k (none,0)).2=cc at *;generalize (reach.getD k [])=l at *;generalize caps.getD k 0=x at *;cases q1:inB x 1 100000 with
    | false =>
     have HQ:=Hd (HF.out (by rw [HV.out,q1];rfl))
     clear HF HN HV;go_wp2_with (go_at_call 153;refine (Hj _ _ _ _).mono ?_;rintro e w1 ⟨rfl,rfl⟩;rw [q1]);go_ret;exact ⟨Af HQ.out.symm,hbW⟩
    | true =>
     cases q2:risingB l 63 with
     | false =>
      have HQ:=Hd (HF.out (by rw [HV.out,q1,q2];rfl))
      rw [q2] at HRS;clear HF HN HV q2;go_wp2_with (first | (go_at_call 153;refine (Hj _ _ _ _).mono ?_;rintro e w1 ⟨rfl,rfl⟩;rw [q1]) | (go_at_call 154;refine HRS.out.mono ?_;rintro e w1 ⟨rfl,hw1⟩;rw [hw1]))
      go_ret;exact ⟨Af HQ.out.symm,hbW⟩
     | true =>
      have HQ:=Hd (HN.out (by rw [HV.out,q1,q2];rfl))
      rw [q2] at HRS;clear HF HN HV q2;go_wp2_with (first | (go_at_call 153;refine (Hj _ _ _ _).mono ?_;rintro e w1 ⟨rfl,rfl⟩;rw [q1]) | (go_at_call 154;refine HRS.out.mono ?_;rintro e w1 ⟨rfl,hw1⟩;rw [hw1]))
      go_roundw
      case rel=>exact ⟨k+1,by omega,by go_num,HQ,trivial⟩
      case measure=>simp [intOf];omega
   ·obtain rfl:k=caps.length:=by omega
    have HQ:Hid (crewB caps reach=true):=by
     refine Hd ?_;unfold crewB;rw [all_good hall.out];simp [HG.out];omega
    clear hall;go_wp2_with fail;go_ret;exact ⟨Af HQ.out.symm,hbW⟩
 ·have g1':((reach.length:Int) != caps.length)=true:=by simp;omega
  have HQ:Hid (crewB caps reach=false):=by
   refine Hd ?_;unfold crewB;simp [g1]
  clear g1;go_enter Tryz.func105,Tryz.ntmps105;go_upto_region 1 with fail
  rw [HW.out];clear HW;go_wp2_with fail;go_ret;exact ⟨Af HQ.out.symm,hbW⟩
def mannedB (b:Al):Bool:=crewB b.caps b.reach && !Fd (fun k=>Fd (fun j=>decide ((b.reach.getD k []).getD j 0>=2*b.bed.rings)) (b.reach.getD k []).length) b.reach.length
theorem manned_any (b:Al) (z:Df) (w:World) (hb:Fa w b z) (hf:b.Few) (hr:0<=b.bed.rings/\b.bed.rings<=24) :
  Calls Tryz.prog 67 #[.agg (b.arr z)] w fun e w'=>e=.returned (.bool (mannedB b))/\Below w.heap.size w w':=by
 obtain ⟨W,hW⟩:∃ W,w.alloc (.cells (b.arr z) 41)=W:=⟨_,rfl⟩;have hbW:Below w.heap.size w W:=by rw [<- hW];exact Ba
 have X:=(show Bk W w.heap.size 41 (b.arr z) by rw [<- hW];exact Aa rfl)
 have hb2:=hb.below hbW;have HV:=Hd (validCrew_any z.caps.1 z.reach.1 z.caps.2 z.reach.2 b.caps b.reach z.rrows W hb2.caps hb2.reach hb2.rrows hf.caps hf.reach hf.rrow);have HM:=Hd (fun (V:World) (hV:Below W.heap.size W V)=>rows_has w.heap.size z.reach.1 z.reach.2 b.reach.length _ (fun k=>Fd (fun j=>decide ((b.reach.getD k []).getD j 0>=2*b.bed.rings)) (b.reach.getD k []).length) V (Hw.of_cells (hb2.reach.below hV)) (by have:=hf.reach;omega)
  (fun U hU k hk=>manned1_any b z w.heap.size (z.rrows.getD k (none,0)).1 (z.rrows.getD k (none,0)).2 (b.reach.getD k []) U ((X.keep hV).keep hU) hr ((hb2.rrows k hk).below (hV.trans (hU.mono hV.size))) (by have:=hf.rrow _ (Cg [] hk);omega)))
 have HQ:Hid (mannedB b=(crewB b.caps b.reach && !Fd (fun k=>Fd (fun j=>decide ((b.reach.getD k []).getD j 0>=2*b.bed.rings)) (b.reach.getD k []).length) b.reach.length)):=rfl
 generalize Fd (fun k=>Fd (fun j=>decide ((b.reach.getD k []).getD j 0>=2 * b.bed.rings)) (b.reach.getD k []).length) b.reach.length=v at *
 have x21:=X.cell 21;have x22:=X.cell 22;simp [Al.arr] at x21 x22;have hlt:=X.lt;have HW:=Hd hW;clear hW hb hb2 hf hr X;cases g:crewB b.caps b.reach with
 | false =>
  rw [g] at HV HQ;clear g;go_enter Tryz.func67,Tryz.ntmps67;go_upto_region 1 with fail
  rw [HW.out];clear HW;go_wp2_with (go_at_call 105;refine HV.out.mono ?_;rintro e w1 ⟨rfl,hb1⟩);go_ret;exact ⟨Af HQ.out.symm,hbW.trans (hb1.mono hbW.size)⟩
 | true =>
  rw [g] at HV HQ;clear g;go_enter Tryz.func67,Tryz.ntmps67;go_upto_region 1 with fail
  rw [HW.out];clear HW;go_wp2_with (first | (go_at_call 105;refine HV.out.mono ?_;rintro e w1 ⟨rfl,hb1⟩;obtain ⟨hcc,hff⟩:=bcell hb1) | (go_at_call 106;refine (HM.out _ hb1).mono ?_;rintro e w2 ⟨rfl,hb2⟩))
  go_ret;exact ⟨Af (by rw [HQ.out];simp),(hbW.trans (hb1.mono hbW.size)).trans (hb2.mono (hbW.trans (hb1.mono hbW.size)).size)⟩
end Go.Proofs.YteihcodicfoiaaaGreat
