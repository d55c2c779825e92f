/-
  What is proved: the contracts of each and of what it calls.
-/
import Derived.Test.YteihcodicfoiaaaGreat8Mf
import Derived.Test.YteihcodicfoiaaaGreatKeepMf
namespace Go.Proofs.YteihcodicfoiaaaGreat
set_option maxRecDepth 100000
set_option maxHeartbeats 2000000
open Go Go.RowKit
def Am (l:List (Int×Int)):List Value:=l.flatMap fun x=>[.int .i64 x.1,.int .i64 x.2]
theorem span_row {w:World} {A:Option Addr} {l:List (Int×Int)} (h:Ad w A (Am l)) (h0:0<l.length) :
  ∃ b off,A=some ⟨b,off,none⟩/\b<w.heap.size/\∀ k,k<l.length->w.cell? ⟨b,off+k*2,none⟩=some (.int .i64 (l.getD k (0,0)).1)/\w.cell? ⟨b,off+k*2+1,none⟩=some (.int .i64 (l.getD k (0,0)).2):=by
 have hl:(Am l).length=l.length*2:=Ci _ 2 (fun _=>rfl) l
 obtain ⟨b,off,h1,h2,h3⟩:=h.some_ (by omega)
 refine ⟨b,off,h1,h2,fun k hk=>?_⟩
 have e:=fun j (hj:j<2)=>Cw (fun x:Int×Int=>[Value.int .i64 x.1,Value.int .i64 x.2]) 2 (fun _=>rfl) (by omega) l k j hk hj
 rw [Aj _ _ hk];exact ⟨h3 (k*2) _ (e 0 (by omega)),by rw [Nat.add_assoc];exact h3 (k*2+1) _ (e 1 (by omega))⟩
theorem each1_any (lo hi:Int) (q1 q2:Nat) (s:Int×Int) (w:World) (h1:Bk w q1 3 #[.int .i64 lo]) (h2:Bk w q2 3 #[.int .i64 hi]) :
  Calls Tryz.prog 104 #[.agg #[.int .i64 s.1,.int .i64 s.2],.pointer (some ⟨q1,0,none⟩),.pointer (some ⟨q2,0,none⟩)] w fun e w'=>e=.returned (.bool (!Cf s.1 s.2 lo hi))/\Below w.heap.size w w':=by
 obtain ⟨a,b⟩:=s;simp only;obtain ⟨W,hW⟩:∃ W,w.alloc (.cells #[.int .i64 a,.int .i64 b] 29)=W:=⟨_,rfl⟩;have hbW:Below w.heap.size w W:=by rw [<- hW];exact Ba
 have Y:Bk W w.heap.size 29 #[.int .i64 a,.int .i64 b]:=by rw [<- hW];exact Aa rfl
 have y0:=Y.cell 0;have y1:=Y.cell 1;have x1:=(h1.keep hbW).cell 0;have x2:=(h2.keep hbW).cell 0;simp at y0 y1 x1 x2;have HW:=Hd hW;clear hW Y h1 h2;go_enter Tryz.func104,Tryz.ntmps104;go_upto_region 1 with fail
 rw [HW.out];clear HW;go_wp2_with (go_at_call 65;refine (Jf _ _ _ _ _).mono ?_;rintro e w1 ⟨rfl,hb1⟩);go_ret;exact ⟨rfl,hbW.trans (hb1.mono hbW.size)⟩
theorem each_ix (q1:Nat) (q2:Nat) (A:Option Addr) (c n:Nat) (el:Nat->List Value) (bad:Nat->Bool) (w:World) (hrow:Hw w A 2 n el) (hn:n<=9223372036854775807)
  (hcall:∀ X,Below w.heap.size w X->∀ k,k<n->Calls Tryz.prog 104 (#[.agg (el k).toArray] ++ #[.pointer (some ⟨q1,0,none⟩),.pointer (some ⟨q2,0,none⟩)]) X fun e w'=>e=.returned (.bool (bad k))/\Below X.heap.size X w') :
  Calls Tryz.prog 149 #[.slice A n c,.func (.func 104) #[] #[.pointer (some ⟨q1,0,none⟩),.pointer (some ⟨q2,0,none⟩)]] w fun e w'=>e=.returned (.int .i64 (Cs bad n))/\Below w.heap.size w w':=by
 have HR:=Hd hrow;have HC:=Hd hcall;clear hrow hcall;have hB0:=Below.refl w.heap.size w;go_enter Tryz.func149,Tryz.ntmps149;go_wp2_with fail;go_loopw [8] (fun i wr=>∃ k:Nat,k<=n/\i=.int .i64 k/\Below w.heap.size w wr/\Hid (∀ j,j<k->bad j=false)) (fun i _=>n - (intOf i).toNat)
 case atStart=>exact ⟨0,Nat.zero_le _,rfl,hB0,fun j h=>absurd h (by omega)⟩
 case round =>
  obtain ⟨k,hk,rfl,hBr,hall⟩:=hrel;clear hB0
  by_cases hlt:k<n
  ·have hkI:(k:Int)<n:=by omega
   obtain ⟨b5,o5,hA,hb5,hc5⟩:=(HR.out.below hBr).2 (by omega)
   have hlen:=HR.out.1 k hlt;have HE:=Hd (HC.out wr hBr k hlt);obtain ⟨u0,u1,hel⟩:=list2_of hlen;have c0:wr.cell? ⟨b5,o5+k*2,none⟩=some u0:=by have:=hc5 k hlt 0 u0 (by rw [hel];rfl);simpa using this
   have c1:wr.cell? ⟨b5,o5+k*2+1,none⟩=some u1:=by have:=hc5 k hlt 1 u1 (by rw [hel];rfl);simpa using this
   rw [hel] at HE;change Hid (Calls Tryz.prog 104 #[.agg #[u0,u1],.pointer (some ⟨q1,0,none⟩),.pointer (some ⟨q2,0,none⟩)] wr _) at HE;have HF:Hid (bad k=true->Cs bad n=k):=fun h=>Es hlt hall.out h
   have HN:Hid (bad k=false->∀ j,j<k+1->bad j=false):=fun h=>Fq hall.out h
   rw [hA];clear hA hc5 hlen hel hall;cases hs:bad k
   ·rw [hs] at HE;have HN2:=Hd (HN.out hs);clear HN HF hs;go_wp2_with (go_at_call 104;refine HE.out.mono ?_;rintro e w1 ⟨rfl,hb1⟩);have hB1:=hBr.trans (hb1.mono hBr.size);go_roundw
    case rel=>exact ⟨k+1,by omega,by go_num,hB1,HN2⟩
    case measure=>simp [intOf];omega
   ·rw [hs] at HE;have HF2:=Hd (HF.out hs);clear HN HF hs;go_wp2_with (go_at_call 104;refine HE.out.mono ?_;rintro e w1 ⟨rfl,hb1⟩);go_ret;exact ⟨Cb HF2.out.symm,hBr.trans (hb1.mono hBr.size)⟩
  ·obtain rfl:k=n:=by omega
   have HF:=Hd (Ea hall.out);clear hall;go_wp2;go_ret;exact ⟨Cb HF.out.symm,hBr⟩
theorem each_has (q1:Nat) (q2:Nat) (A:Option Addr) (c n:Nat) (el:Nat->List Value) (bad:Nat->Bool) (w:World) (hrow:Hw w A 2 n el) (hn:n<=9223372036854775807)
  (hcall:∀ X,Below w.heap.size w X->∀ k,k<n->Calls Tryz.prog 104 (#[.agg (el k).toArray] ++ #[.pointer (some ⟨q1,0,none⟩),.pointer (some ⟨q2,0,none⟩)]) X fun e w'=>e=.returned (.bool (bad k))/\Below X.heap.size X w') :
  Calls Tryz.prog 98 #[.slice A n c,.func (.func 104) #[] #[.pointer (some ⟨q1,0,none⟩),.pointer (some ⟨q2,0,none⟩)]] w fun e w'=>e=.returned (.bool (Fd bad n))/\Below w.heap.size w w':=by
 have HI:=Hd (each_ix q1 q2 A c n el bad w hrow hn hcall);have HG:=Hd (Et bad n);clear hrow hcall;go_enter Tryz.func98,Tryz.ntmps98;go_wp2_with (go_at_call 149;refine HI.out.mono ?_;rintro e w1 ⟨rfl,hb1⟩);go_ret;exact ⟨Af HG.out,hb1⟩
end Go.Proofs.YteihcodicfoiaaaGreat
