/-
  What is proved: the contract of each.
-/
import Derived.Test.YteihcodicfoiaaaGreatEachMf
namespace Go.Proofs.YteihcodicfoiaaaGreat
set_option maxRecDepth 100000
set_option maxHeartbeats 1000000
open Go Go.RowKit
def eachB (l:List (Int×Int)) (n lo hi:Int):Bool:=decide ((l.length:Int)=n) && !Fd (fun k=>!Cf (l.getD k (0,0)).1 (l.getD k (0,0)).2 lo hi) l.length
theorem each_any (A:Option Addr) (c:Nat) (l:List (Int×Int)) (n lo hi:Int) (w:World) (hL:Ad w A (Am l)) (hn:l.length<=1000) :
  Calls Tryz.prog 66 #[.slice A l.length c,.int .i64 n,.int .i64 lo,.int .i64 hi] w fun e w'=>e=.returned (.bool (eachB l n lo hi))/\Below w.heap.size w w':=by
 obtain ⟨W,hW⟩:∃ W,(w.alloc (.cells #[.int .i64 lo] 3)).alloc (.cells #[.int .i64 hi] 3)=W:=⟨_,rfl⟩;have hbW:Below w.heap.size w W:=by rw [<- hW];exact Ba.alloc (by simp) _
 have X:=(show Bk W w.heap.size 3 #[.int .i64 lo] by rw [<- hW];exact (Aa rfl).alloc _)
 have Y:=(show Bk W (w.heap.size+1) 3 #[.int .i64 hi] by rw [<- hW];exact Aa (by simp))
 have HC:=Hd (each_has w.heap.size (w.heap.size+1) A c l.length _ (fun k=>!Cf (l.getD k (0,0)).1 (l.getD k (0,0)).2 lo hi) W (Hw.of_row (fun x:Int×Int=>[Value.int .i64 x.1,.int .i64 x.2]) (fun _=>rfl) (by omega) (0,0) (hL.below hbW)) (by omega) (fun V hV k hk=>each1_any lo hi _ _ (l.getD k (0,0)) V (X.keep hV) (Y.keep hV)))
 have HQ:Hid (eachB l n lo hi=(decide ((l.length:Int)=n) && !Fd (fun k=>!Cf (l.getD k (0,0)).1 (l.getD k (0,0)).2 lo hi) l.length)):=rfl
 have HW:=Hd hW;clear hW hL X Y;generalize Fd (fun k=>!Cf (l.getD k (0,0)).1 (l.getD k (0,0)).2 lo hi) l.length=v at *
 by_cases h1:(l.length:Int)=n
 ·subst h1;go_enter Tryz.func66,Tryz.ntmps66;go_upto_region 1 with fail
  rw [HW.out];clear HW;go_wp2_with (go_at_call 98;refine HC.out.mono ?_;rintro e w1 ⟨rfl,hb1⟩);go_ret;exact ⟨Af (by rw [HQ.out];simp),hbW.trans (hb1.mono hbW.size)⟩
 ·go_enter Tryz.func66,Tryz.ntmps66;go_upto_region 1 with fail
  rw [HW.out];clear HW;go_wp2_with fail;go_ret;exact ⟨Af (by rw [HQ.out];simp [h1]),hbW⟩
end Go.Proofs.YteihcodicfoiaaaGreat
