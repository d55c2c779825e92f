/-
  What is proved: contracts and plain facts that TopForget stands on (TFlat, TMass).
-/
import Derived.Test.YteihcodicfoiaaaGreat2Mf
import Derived.Test.YteihcodicfoiaaaGreat0Mf
import Derived.Test.YteihcodicfoiaaaGreatOverMf
namespace Go.Proofs.YteihcodicfoiaaaGreat
set_option maxHeartbeats 2000000
open Go Go.RowKit
section
theorem flat1_any (n m:Int) (b:Nat) (w:World) (hb:w.cell? ⟨b,0,none⟩=some (.int .i64 m)) (h0:0<=m) (h1:m<=1000000000000000000) :
  Calls Tryz.prog 197 #[.int .i64 n,.pointer (some ⟨b,0,none⟩)] w fun e w'=>e=.returned (.bool (!inB n (-m) m))/\w=w':=by
 go_enter Tryz.func197,Tryz.ntmps197;go_wp2
 all_goals
  go_ret;exact ⟨Af (by first | (simp [inB];done) | (simp [inB];omega) | (rw [Bool.eq_iff_iff];simp [inB]<;>omega)),rfl⟩
theorem index113_any (A:Option Addr) (c b:Nat) (m:Int) (xs:List Int) (w:World) (hL:Ad w A (Ac xs)) (hn:xs.length<=9223372036854775807)
  (hb:w.cell? ⟨b,0,none⟩=some (.int .i64 m)) (h0:0<=m) (h1:m<=1000000000000000000) :
  Calls Tryz.prog 156 #[.slice A xs.length c,.func (.func 197) #[] #[.pointer (some ⟨b,0,none⟩)]] w fun e w'=>e=.returned (.int .i64 (firstBad (fun n=>!inB n (-m) m) xs))/\w=w':=by
 go_enter Tryz.func156,Tryz.ntmps156;go_wp2;go_loop [8] (fun i=>∃ k:Nat,k<=xs.length/\i=.int .i64 k/\Hid (∀ j (h:j<xs.length),j<k->(!inB xs[j] (-m) m)=false)) (fun i=>xs.length - (intOf i).toNat)
 case atStart=>exact ⟨0,Nat.zero_le _,rfl,fun j _ h=>absurd h (by omega)⟩
 case round =>
  obtain ⟨k,hk,rfl,hall⟩:=hrel
  by_cases hlt:k<xs.length
  ·obtain ⟨b',off,hA,hb',hc⟩:=hL.int (by omega)
   have c0:=hc k hlt;clear hc;rw [hA];clear hA;go_wp2_with (go_at_call 197;refine (flat1_any _ m b _ hb h0 h1).mono ?_;rintro e w1 ⟨rfl,rfl⟩)
   ·have hbad:(!inB xs[k] (-m) m)=true:=by assumption
    go_ret;exact ⟨Cb (firstBad_hit _ xs k hlt hall.out hbad).symm,rfl⟩
   ·have hgood:(!inB xs[k] (-m) m)=false:=by assumption
    go_round
    case rel =>
     refine ⟨k+1,by omega,by go_num,fun j hj hjk=>?_⟩
     rcases Nat.lt_or_ge j k with h | h
     ·exact hall.out j hj h
     ·have:j=k:=by omega
      subst this;exact hgood
    case measure=>simp [intOf];omega
  ·have:k=xs.length:=by omega
   subst this;go_wp2;go_ret;exact ⟨Cb (firstBad_none _ xs hall.out).symm,rfl⟩
theorem contains113_any (A:Option Addr) (c b:Nat) (m:Int) (xs:List Int) (w:World) (hL:Ad w A (Ac xs)) (hn:xs.length<=9223372036854775807)
  (hb:w.cell? ⟨b,0,none⟩=some (.int .i64 m)) (h0:0<=m) (h1:m<=1000000000000000000) :
  Calls Tryz.prog 108 #[.slice A xs.length c,.func (.func 197) #[] #[.pointer (some ⟨b,0,none⟩)]] w fun e w'=>e=.returned (.bool (xs.any (fun n=>!inB n (-m) m)))/\w=w':=by
 go_enter Tryz.func108,Tryz.ntmps108;go_wp2_with (go_at_call 156;refine (index113_any _ _ _ _ _ _ hL hn hb h0 h1).mono ?_;rintro e w1 ⟨rfl,rfl⟩);go_ret;exact ⟨Af (firstBad_any _ xs),rfl⟩
def flatB (m:Int) (xs:List Int):Bool:=xs.all fun x=>inB x (-m) m
theorem flatB_not (m:Int) (xs:List Int):(!xs.any (fun n=>!inB n (-m) m))=flatB m xs:=by
 rw [not_any];simp [flatB]
theorem flat_any (A:Option Addr) (c:Nat) (m:Int) (xs:List Int) (w:World) (hL:Ad w A (Ac xs)) (hn:xs.length<=9223372036854775807) (h0:0<=m) (h1:m<=1000000000000000000) :
  Calls Tryz.prog 157 #[.int .i64 m,.slice A xs.length c] w fun e w'=>e=.returned (.bool (flatB m xs))/\Below w.heap.size w w':=by
 rw [<- flatB_not];go_enter Tryz.func157,Tryz.ntmps157;go_wp2_with (go_at_call 108;refine (contains113_any _ _ _ m _ _ (hL.alloc _) hn (by simp) h0 h1).mono ?_;rintro e w1 ⟨rfl,rfl⟩)
 go_ret;exact ⟨rfl,Ba⟩
attribute [local go_sem] Fac.val
attribute [local go_sem ↓] Ei Eh
theorem weight_any (f:Fac) (A:Option Addr) (c:Nat) (r:Int) (w:World) (he:0<=f.eye) (he2:f.eye<=1000) (hr:0<=r) (hr2:r<=1000) :
  Calls Tryz.prog 226 #[f.val A c,.int .i64 r] w fun e w'=>e=.returned (.int .i64 (2*(f.eye+r)+1))/\Below w.heap.size w w':=by
 obtain ⟨eye,rings,sec,kinds⟩:=f;simp only [Fac.val] at *;go_enter Tryz.func226,Tryz.ntmps226;go_wp2;go_ret;exact ⟨rfl,Ba⟩
def weightR (f:Fac) (r:Int):Int×Int:=if f.ok then if inB r 0 (f.rings - 1) then (2*(f.eye+r)+1,0) else (0,3) else (0,10)
def tpairV (x:Int×Int):Value:=.tuple #[.int .i64 x.1,.int .i64 x.2]
theorem Weight_any (f:Fac) (A:Option Addr) (c:Nat) (r:Int) (w:World) (hL:Ad w A (Ac f.kinds)) (hn:f.kinds.length<=9223372036854775807) :
  Calls Tryz.prog 198 #[f.val A c,.int .i64 r] w fun e w'=>e=.returned (tpairV (weightR f r))/\Below w.heap.size w w':=by
 by_cases hok:f.ok=true
 ·have hk:=fac_ok hok;obtain ⟨k1,k2,k3,k4,_⟩:=hk
  by_cases hr:inB r 0 (f.rings - 1)=true
  ·have hr':=hr;simp only [inB,decide_eq_true_eq] at hr';rw [weightR,if_pos hok,if_pos hr];have HW:=Hd (fun W:World=>weight_any f A c r W (by omega) (by omega) hr'.1 (by omega))
   have HV:=Hd (fun (W:World) (h:Ad W A (Ac f.kinds))=>Jh f A c W h hn)
   rw [hok] at HV;obtain ⟨eye,rings,sec,kinds⟩:=f;simp only [Fac.val,tpairV] at *;go_enter Tryz.func198,Tryz.ntmps198;go_wp2_with fail;refine (HV.out _ (hL.alloc _)).mono ?_;rintro e w1 ⟨rfl,hb1⟩;have F:Bk w1 w.heap.size 24 #[.int .i64 eye,.int .i64 rings,.int .i64 sec,.slice A kinds.length c]:=(Aa rfl).keep hb1;have hB1:Below w.heap.size w w1:=Ba.trans (hb1.mono (by simp))
   have f0:=F.cell 0;have f1:=F.cell 1;have f2:=F.cell 2;have f3:=F.cell 3;simp at f0 f1 f2 f3;clear hb1;go_wp2_with (go_at_call 165;refine (He _ _ _ _).mono ?_;rintro e w' ⟨rfl,rfl⟩);refine (HW.out _).mono ?_;rintro e w2 ⟨rfl,hb2⟩;have hB2:=hB1.trans (hb2.mono hB1.size);go_wp2_with fail;go_ret2;exact ⟨rfl,hB2⟩
  ·have hr':inB r 0 (f.rings - 1)=false:=by simpa using hr
   rw [weightR,if_pos hok,if_neg hr];have HV:=Hd (fun (W:World) (h:Ad W A (Ac f.kinds))=>Jh f A c W h hn)
   rw [hok] at HV;obtain ⟨eye,rings,sec,kinds⟩:=f;simp only [Fac.val,tpairV] at *;go_enter Tryz.func198,Tryz.ntmps198;go_wp2_with fail;refine (HV.out _ (hL.alloc _)).mono ?_;rintro e w1 ⟨rfl,hb1⟩;have F:Bk w1 w.heap.size 24 #[.int .i64 eye,.int .i64 rings,.int .i64 sec,.slice A kinds.length c]:=(Aa rfl).keep hb1;have hB1:Below w.heap.size w w1:=Ba.trans (hb1.mono (by simp))
   have f1:=F.cell 1;simp at f1;clear hb1;go_wp2_with (go_at_call 165;refine (He _ _ _ _).mono ?_;rintro e w' ⟨rfl,rfl⟩);go_ret2;exact ⟨rfl,hB1⟩
 ·have hok':f.ok=false:=by simpa using hok
  rw [weightR,if_neg hok];have HV:=Hd (fun (W:World) (h:Ad W A (Ac f.kinds))=>Jh f A c W h hn)
  rw [hok'] at HV;obtain ⟨eye,rings,sec,kinds⟩:=f;simp only [Fac.val,tpairV] at *;go_enter Tryz.func198,Tryz.ntmps198;go_wp2_with fail;refine (HV.out _ (hL.alloc _)).mono ?_;rintro e w1 ⟨rfl,hb1⟩;have hB1:Below w.heap.size w w1:=Ba.trans (hb1.mono (by simp))
  clear hb1;go_wp2_with fail;go_ret2;exact ⟨rfl,hB1⟩
/-! ### Points -/
theorem plus_any (x y px py t:Int) (w:World) (h1:-9223372036854775808<=px*t/\px*t<=9223372036854775807) (h2:-9223372036854775808<=py*t/\py*t<=9223372036854775807)
  (h3:-9223372036854775808<=x+px*t/\x+px*t<=9223372036854775807) (h4:-9223372036854775808<=y+py*t/\y+py*t<=9223372036854775807) :
  Calls Tryz.prog 158 #[.agg #[.int .i64 x,.int .i64 y],.agg #[.int .i64 px,.int .i64 py],.int .i64 t] w fun e w'=>e=.returned (.agg #[.int .i64 (x+px*t),.int .i64 (y+py*t)])/\Below w.heap.size w w':=by
 go_enter Tryz.func158,Tryz.ntmps158;go_wp2;refine bodyPost_ret (v:=.agg #[.int .i64 (x+px*t),.int .i64 (y+py*t)]) (by simp [results,Tryz.results158,go_sem]) rfl ⟨rfl,?_⟩
 repeat (first | exact Below.refl _ _ | refine Below.setCell ?_ (by simp<;>omega) _ | refine Below.alloc ?_ (by simp<;>omega) _ | refine As ?_ _)
end
section
structure Stn where
 f:Fac
 heights:List Int
 compass:List (Int×Int)
 pockets:List ((Int×Int)×Int)
 tol:Int
structure Loc where
 a1:Option Addr
 a2:Option Addr
 a3:Option Addr
 a4:Option Addr
 c1:Nat
 c2:Nat
 c3:Nat
 c4:Nat
def Stn.cells (s:Stn) (z:Loc):Array Value:=#[.int .i64 s.f.eye,.int .i64 s.f.rings,.int .i64 s.f.sec,.slice z.a1 s.f.kinds.length z.c1,.slice z.a2 s.heights.length z.c2,.slice z.a3 s.compass.length z.c3,.slice z.a4 s.pockets.length z.c4,.int .i64 s.tol]
def Stn.val (s:Stn) (z:Loc):Value:=.agg (s.cells z)
def ptCells (l:List (Int×Int)):List Value:=l.flatMap fun p=>[.int .i64 p.1,.int .i64 p.2]
def pkCells (l:List ((Int×Int)×Int)):List Value:=l.flatMap fun p=>[.int .i64 p.1.1,.int .i64 p.1.2,.int .i64 p.2]
theorem ptCells_len (l:List (Int×Int)):(ptCells l).length=l.length*2:=Ci _ 2 (fun _=>rfl) l
theorem pkCells_len (l:List ((Int×Int)×Int)):(pkCells l).length=l.length*3:=Ci _ 3 (fun _=>rfl) l
theorem Ad.pt {w:World} {A:Option Addr} {l:List (Int×Int)} (h:Ad w A (ptCells l)) (h0:0<l.length) :
  ∃ b off,A=some ⟨b,off,none⟩/\b<w.heap.size/\∀ k,k<l.length->w.cell? ⟨b,off+k*2,none⟩=some (.int .i64 (l.getD k (0,0)).1)/\w.cell? ⟨b,off+k*2+1,none⟩=some (.int .i64 (l.getD k (0,0)).2):=by
 obtain ⟨b,off,e,hb,hc⟩:=h (by rw [ptCells_len];omega)
 refine ⟨b,off,e,hb,fun k hk=>?_⟩
 rw [Aj _ _ hk];refine ⟨?_,?_⟩
 ·exact hc (k*2) _ (by rw [<- Nat.add_zero (k*2)];exact Cw _ 2 (fun _=>rfl) (by omega) l k 0 hk (by omega))
 ·exact hc (k*2+1) _ (Cw _ 2 (fun _=>rfl) (by omega) l k 1 hk (by omega))
theorem Ad.pk {w:World} {A:Option Addr} {l:List ((Int×Int)×Int)} (h:Ad w A (pkCells l)) (h0:0<l.length) :
  ∃ b off,A=some ⟨b,off,none⟩/\b<w.heap.size/\∀ k,k<l.length->w.cell? ⟨b,off+k*3,none⟩=some (.int .i64 (l.getD k ((0,0),0)).1.1)/\w.cell? ⟨b,off+k*3+1,none⟩=some (.int .i64 (l.getD k ((0,0),0)).1.2)/\w.cell? ⟨b,off+k*3+2,none⟩=some (.int .i64 (l.getD k ((0,0),0)).2):=by
 obtain ⟨b,off,e,hb,hc⟩:=h (by rw [pkCells_len];omega)
 refine ⟨b,off,e,hb,fun k hk=>?_⟩
 rw [Aj _ _ hk];refine ⟨?_,?_,?_⟩
 ·exact hc (k*3) _ (by rw [<- Nat.add_zero (k*3)];exact Cw _ 3 (fun _=>rfl) (by omega) l k 0 hk (by omega))
 ·exact hc (k*3+1) _ (Cw _ 3 (fun _=>rfl) (by omega) l k 1 hk (by omega))
 ·exact hc (k*3+2) _ (Cw _ 3 (fun _=>rfl) (by omega) l k 2 hk (by omega))
structure StAt (w:World) (s:Stn) (z:Loc):Prop where
 kinds:Ad w z.a1 (Ac s.f.kinds)
 heights:Ad w z.a2 (Ac s.heights)
 compass:Ad w z.a3 (ptCells s.compass)
 pockets:Ad w z.a4 (pkCells s.pockets)
 n1:s.f.kinds.length<=9223372036854775807
 n2:s.heights.length<=9223372036854775807
 n3:s.compass.length<=9223372036854775807
 n4:s.pockets.length<=9223372036854775807
theorem StAt.below {w w':World} {s:Stn} {z:Loc} (h:StAt w s z) (hb:Below w.heap.size w w'):StAt w' s z :=
 ⟨h.kinds.below hb,h.heights.below hb,h.compass.below hb,h.pockets.below hb,h.n1,h.n2,h.n3,h.n4⟩
theorem StAt.alloc {w:World} {s:Stn} {z:Loc} (h:StAt w s z) (o:Obj):StAt (w.alloc o) s z :=
 ⟨h.kinds.alloc o,h.heights.alloc o,h.compass.alloc o,h.pockets.alloc o,h.n1,h.n2,h.n3,h.n4⟩
theorem box_stn {w:World} {s:Stn} {z:Loc} (h:StAt w s z):Bk (w.alloc (.cells #[.int .i64 s.f.eye,.int .i64 s.f.rings,.int .i64 s.f.sec,.slice z.a1 s.f.kinds.length z.c1,.slice z.a2 s.heights.length z.c2,.slice z.a3 s.compass.length z.c3,.slice z.a4 s.pockets.length z.c4,.int .i64 s.tol] 163)) w.heap.size 163 (s.cells z)/\
  StAt (w.alloc (.cells #[.int .i64 s.f.eye,.int .i64 s.f.rings,.int .i64 s.f.sec,.slice z.a1 s.f.kinds.length z.c1,.slice z.a2 s.heights.length z.c2,.slice z.a3 s.compass.length z.c3,.slice z.a4 s.pockets.length z.c4,.int .i64 s.tol] 163)) s z /\
  Below w.heap.size w (w.alloc (.cells #[.int .i64 s.f.eye,.int .i64 s.f.rings,.int .i64 s.f.sec,.slice z.a1 s.f.kinds.length z.c1,.slice z.a2 s.heights.length z.c2,.slice z.a3 s.compass.length z.c3,.slice z.a4 s.pockets.length z.c4,.int .i64 s.tol] 163)) :=
 ⟨Aa rfl,h.alloc _,Ba⟩
theorem stn_cell {w:World} {g:Nat} {t:TypeId} {s:Stn} {z:Loc} {m:Array Value} (h:Bk w g t (s.cells z ++ m)) :
  w.cell? ⟨g,0,none⟩=some (.int .i64 s.f.eye)/\w.cell? ⟨g,1,none⟩=some (.int .i64 s.f.rings)/\w.cell? ⟨g,2,none⟩=some (.int .i64 s.f.sec)/\w.cell? ⟨g,3,none⟩=some (.slice z.a1 s.f.kinds.length z.c1)/\
  w.cell? ⟨g,4,none⟩=some (.slice z.a2 s.heights.length z.c2)/\w.cell? ⟨g,5,none⟩=some (.slice z.a3 s.compass.length z.c3)/\w.cell? ⟨g,6,none⟩=some (.slice z.a4 s.pockets.length z.c4)/\w.cell? ⟨g,7,none⟩=some (.int .i64 s.tol):=by
 refine ⟨?_,?_,?_,?_,?_,?_,?_,?_⟩<;>rw [h.cell,Array.getElem?_append_left (by simp [Stn.cells])]<;>rfl
theorem Gq {w:World} {g:Nat} {t:TypeId} {s:Stn} {z:Loc} (h:Bk w g t (s.cells z)) :
  w.cell? ⟨g,0,none⟩=some (.int .i64 s.f.eye)/\w.cell? ⟨g,1,none⟩=some (.int .i64 s.f.rings)/\w.cell? ⟨g,2,none⟩=some (.int .i64 s.f.sec)/\w.cell? ⟨g,3,none⟩=some (.slice z.a1 s.f.kinds.length z.c1)/\
  w.cell? ⟨g,4,none⟩=some (.slice z.a2 s.heights.length z.c2)/\w.cell? ⟨g,5,none⟩=some (.slice z.a3 s.compass.length z.c3)/\w.cell? ⟨g,6,none⟩=some (.slice z.a4 s.pockets.length z.c4)/\w.cell? ⟨g,7,none⟩=some (.int .i64 s.tol) :=
 stn_cell (m:=#[]) (by simpa using h)
def Stn.ok (s:Stn):Bool :=
 s.f.ok && s.heights.length == s.f.kinds.length && flatB 100000 s.heights && (s.compass.length:Int) == s.f.sec && decide (s.pockets.length<=8) && inB s.tol 0 1000000000000 &&
  s.compass.all (fun p=>inB p.1 (-1000) 1000 && inB p.2 (-1000) 1000) && s.pockets.all (fun p=>inB p.1.1 (-1000000) 1000000 && inB p.1.2 (-1000000) 1000000 && inB p.2 0 255)
theorem stn_ok {s:Stn} (h:s.ok=true):s.f.ok=true/\s.heights.length=s.f.kinds.length/\(∀ x∈s.heights,-100000<=x/\x<=100000)/\(s.compass.length:Int)=s.f.sec/\s.pockets.length<=8/\0<=s.tol/\s.tol<=1000000000000 /\
  (∀ p∈s.compass,(-1000<=p.1/\p.1<=1000)/\ -1000<=p.2/\p.2<=1000)/\(∀ p∈s.pockets,((-1000000<=p.1.1/\p.1.1<=1000000)/\ -1000000<=p.1.2/\p.1.2<=1000000)/\0<=p.2/\p.2<=255):=by
 simp only [Stn.ok,flatB,inB,Bool.and_eq_true,decide_eq_true_eq,beq_iff_eq,List.all_eq_true] at h;obtain ⟨⟨⟨⟨⟨⟨⟨h1,h2⟩,h3⟩,h4⟩,h5⟩,h6⟩,h7⟩,h8⟩:=h;exact ⟨h1,h2,h3,h4,h5,h6.1,h6.2,h7,h8⟩
theorem tmul_bound {y x a b:Int} (h0:0<=y) (h1:y<=a) (h2:-b<=x) (h3:x<=b):-(a*b)<=y*x/\y*x<=a*b:=by
 constructor
 ·have e1:y*(-x)<=a*b:=Int.le_trans (Int.mul_le_mul_of_nonneg_left (show -x<=b by omega) h0) (Int.mul_le_mul_of_nonneg_right h1 (by omega))
  rw [Int.mul_neg] at e1;omega
 ·exact Int.le_trans (Int.mul_le_mul_of_nonneg_left h3 h0) (Int.mul_le_mul_of_nonneg_right h1 (by omega))
def massV (s:Stn) (i:Nat):Int:=(2*(s.f.eye+(i:Int) / s.f.sec)+1)*s.heights.getD i 0
theorem cell_ring {s:Stn} (h:s.ok=true) {i:Nat} (hi:i<s.f.kinds.length):0<=(i:Int) / s.f.sec/\(i:Int) / s.f.sec<=s.f.rings - 1/\0<=(i:Int) % s.f.sec/\(i:Int) % s.f.sec<s.f.sec:=by
 obtain ⟨h1,_⟩:=stn_ok h;obtain ⟨_,_,k3,k4,k5,k6,k7,k8⟩:=fac_ok h1;refine ⟨Int.ediv_nonneg (by omega) (by omega),?_,Int.emod_nonneg _ (by omega),Int.emod_lt_of_pos _ (by omega)⟩
 have:(i:Int) / s.f.sec<s.f.rings:=Int.ediv_lt_of_lt_mul (by omega) (by rw [<- k7];omega)
 omega
theorem mass_bound {s:Stn} (h:s.ok=true) {i:Nat} (hi:i<s.f.kinds.length):-7900000<=massV s i/\massV s i<=7900000:=by
 obtain ⟨h1,h2,h3,_⟩:=stn_ok h;obtain ⟨k1,k2,k3,k4,k5,k6,k7,k8⟩:=fac_ok h1;obtain ⟨r1,r2,_⟩:=cell_ring h hi;have hx:=h3 (s.heights.getD i 0) (Cg _ (by omega))
 unfold massV;generalize s.heights.getD i 0=x at *;generalize (i:Int) / s.f.sec=r at *;have hw:0<=2*(s.f.eye+r)+1/\2*(s.f.eye+r)+1<=79:=by omega
 generalize 2 * (s.f.eye + r) + 1=y at *;exact tmul_bound hw.1 hw.2 hx.1 hx.2
attribute [local go_sem] Fac.val Stn.val Stn.cells tpairV
theorem mass_any (s:Stn) (z:Loc) (i:Nat) (w:World) (hs:StAt w s z) (hok:s.ok=true) (hi:i<s.f.kinds.length) :
  Calls Tryz.prog 159 #[s.val z,.int .i64 i] w fun e w'=>e=.returned (.int .i64 (massV s i))/\Below w.heap.size w w':=by
 obtain ⟨h1,h2,h3,_⟩:=stn_ok hok;obtain ⟨k1,k2,k3,k4,k5,k6,k7,k8⟩:=fac_ok h1;obtain ⟨r1,r2,_⟩:=cell_ring hok hi;have hmb:=mass_bound hok hi;have hR:inB ((i:Int) / s.f.sec) 0 (s.f.rings - 1)=true:=by simp [inB];omega
 have HW:Hid (∀ W,StAt W s z->Calls Tryz.prog 198 #[s.f.val z.a1 z.c1,.int .i64 ((i:Int) / s.f.sec)] W fun e w'=>e=.returned (tpairV (2*(s.f.eye+(i:Int) / s.f.sec)+1,0))/\Below W.heap.size W w'):=fun W hW=>by
  have h:=Weight_any s.f z.a1 z.c1 ((i:Int) / s.f.sec) W hW.kinds hW.n1
  rwa [weightR,if_pos h1,if_pos hR] at h
 unfold massV at hmb ⊢;have hhl:i<s.heights.length:=by omega
 have hiI:(i:Int)<(s.heights.length:Int):=by omega
 have hsz:(s.f.sec == 0)=false:=by simp;omega
 clear h3 h2 hR;generalize hx:s.heights.getD i 0=x at *;generalize hr:(i:Int) / s.f.sec=r at *;unfold Stn.val;go_enter Tryz.func159,Tryz.ntmps159;go_wp2_with fail;obtain ⟨X,hs1,hB⟩:=box_stn hs;generalize w.alloc (.cells _ 163)=V at *;refine By 8 (by kernel_rfl) (by kernel_rfl) (fun _ _ d _ _ h=>by cases d<;>exact h) ?_
 simp only [List.take_succ_cons,List.take_zero,List.drop_succ_cons,List.drop_zero];obtain ⟨x0,x1,x2,x3,x4,_⟩:=Gq X;have X0:=fun x:Ext V=>Ag x.bel x0
 have X1:=fun x:Ext V=>Ag x.bel x1
 have X2:=fun x:Ext V=>Ag x.bel x2
 have X3:=fun x:Ext V=>Ag x.bel x3
 have HH:Hid (∀ x:Ext V,Calls Tryz.prog 198 #[.agg #[.int .i64 s.f.eye,.int .i64 s.f.rings,.int .i64 s.f.sec,.slice z.a1 s.f.kinds.length z.c1],.int .i64 r] x.w fun e w'=>e=.returned (tpairV (2*(s.f.eye+r)+1,0))/\Below x.w.heap.size x.w w'):=fun x=>HW.out _ (hs1.below x.bel)
 clear HW x0 x1 x2 x3 x4;repeat (go_big_quiet_step ((go_at_call 198;exact Cj (HH.out _))))
 refine wpQuiet_nil ?_;rintro _ ⟨y,rfl⟩;clear X0 X1 X2 X3 HH;have hb:=y.bel;generalize y.w=w2 at hb ⊢;replace X:=X.keep hb;replace hs1:=hs1.below hb;replace hB:=hB.trans (hb.mono hB.size);obtain ⟨x0,x1,x2,x3,x4,_⟩:=Gq X;obtain ⟨b2,o2,ha2,hb2,hc2⟩:=hs1.heights.intD (by omega)
 have d2:=hc2 i (by omega)
 rw [hx] at d2;rw [ha2] at x4;clear hc2 ha2 hx hr;go_wp2_with fail;go_ret;exact ⟨rfl,hB⟩
end
end Go.Proofs.YteihcodicfoiaaaGreat
