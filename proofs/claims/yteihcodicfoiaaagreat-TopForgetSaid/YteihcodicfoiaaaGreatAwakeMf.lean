/-
  What is proved: the contract of awake.
-/
import Derived.Test.YteihcodicfoiaaaGreatNotchAMf
import Derived.Test.YteihcodicfoiaaaGreatNeedMf
import Derived.Test.YteihcodicfoiaaaGreatGRatioMf
import Derived.Laws.StructEq
namespace Go.Proofs.YteihcodicfoiaaaGreat
set_option maxRecDepth 100000
set_option maxHeartbeats 8000000
open Go Go.RowKit
attribute [local go_sem ↓] Ei Eh
attribute [local go_sem] Res.val
theorem eq42 (W:World) (a b c d:Int):(binOp .eql 29 (.agg #[.int .i64 a,.int .i64 b]) (.agg #[.int .i64 c,.int .i64 d])).run Tryz.prog W=.ok (.bool (a == c && b == d)) W:=by
 simp [go_sem,Tryz.underlying29]
 by_cases h1:a=c<;>by_cases h2:b=d<;>simp [*]
theorem eq48 (W:World) (a b c d:Int):(binOp .eql 80 (.agg #[.int .i64 a,.int .i64 b]) (.agg #[.int .i64 c,.int .i64 d])).run Tryz.prog W=.ok (.bool (a == c && b == d)) W:=by
 simp [go_sem,Tryz.underlying80]
 by_cases h1:a=c<;>by_cases h2:b=d<;>simp [*]
theorem buildMesh (W:World):(Instr.buildSlice 37 2 #[(0,.agg #[.int .i64 12,.int .i64 8,.int .i64 100]),(1,.agg #[.int .i64 10,.int .i64 4,.int .i64 0])]).run Tryz.prog W=.ok (.slice (some ⟨W.heap.size,0,none⟩) 2 2) (W.alloc (.cells #[.int .i64 12,.int .i64 8,.int .i64 100,.int .i64 10,.int .i64 4,.int .i64 0] 84)):=by kernel_rfl
theorem build7 (W:World):(Instr.buildSlice 85 1 #[(0,.int .u8 7)]).run Tryz.prog W=.ok (.slice (some ⟨W.heap.size,0,none⟩) 1 1) (W.alloc (.cells #[.int .u8 7] 5)):=by kernel_rfl
theorem build4 (W:World):(Instr.buildSlice 85 4 #[(0,.int .u8 1),(1,.int .u8 0),(2,.int .u8 8),(3,.int .u8 0)]).run Tryz.prog W=.ok (.slice (some ⟨W.heap.size,0,none⟩) 4 4) (W.alloc (.cells #[.int .u8 1,.int .u8 0,.int .u8 8,.int .u8 0] 5)):=by kernel_rfl
def meshL:List Fr:=[⟨12,8,100⟩,⟨10,4,0⟩]
theorem val_ratio:ratioR meshL=⟨15,4,0⟩:=by decide
theorem meshRow (W:World) (n:Nat) (h:W.heap.size=n):Ad (W.alloc (.cells #[.int .i64 12,.int .i64 8,.int .i64 100,.int .i64 10,.int .i64 4,.int .i64 0] 84)) (some ⟨n,0,none⟩) (Ff meshL):=fun _ =>
 ⟨n,0,rfl,by simp;omega,fun j u hu=>by
  have P:=Aa (t:=84) (cs:=#[.int .i64 12,.int .i64 8,.int .i64 100,.int .i64 10,.int .i64 4,.int .i64 0]) h;rw [P.cell,Nat.zero_add]
  simpa [Ff,meshL] using hu⟩
theorem bytesRow {W:World} {b:Nat} {v:Value} (h:W.ownsRow b 5 1 v 4 [.int .u8 1,.int .u8 0,.int .u8 8,.int .u8 0]):(convert 85 9 v).run Tryz.prog W=.ok (.string ⟨#[1,0,8,0]⟩) W:=by
 obtain ⟨g,cap,rfl,_,hg⟩:=own_row h (by decide)
 refine run_convert_bytes_back W 85 9 5 ⟨g,0,none⟩ cap [1,0,8,0] Tryz.underlying85 Tryz.underlying5 Tryz.underlying9 (fun j hj=>?_)
 rw [De]
 match j,hj with
 | 0,_=>exact hg.2 0 _ rfl
 | 1,_=>exact hg.2 1 _ rfl
 | 2,_=>exact hg.2 2 _ rfl
 | 3,_=>exact hg.2 3 _ rfl
theorem bytesNew (W:World) (n:Nat) (h:W.heap.size=n):(convert 85 9 (.slice (some ⟨n,0,none⟩) 4 4)).run Tryz.prog (W.alloc (.cells #[.int .u8 1,.int .u8 0,.int .u8 8,.int .u8 0] 5))=.ok (.string ⟨#[1,0,8,0]⟩) (W.alloc (.cells #[.int .u8 1,.int .u8 0,.int .u8 8,.int .u8 0] 5)):=by
 have P:=Aa (t:=5) (cs:=#[.int .u8 1,.int .u8 0,.int .u8 8,.int .u8 0]) h;refine run_convert_bytes_back _ 85 9 5 ⟨n,0,none⟩ 4 [1,0,8,0] Tryz.underlying85 Tryz.underlying5 Tryz.underlying9 (fun j hj=>?_)
 rw [De]
 match j,hj with
 | 0,_=>exact P.cell 0
 | 1,_=>exact P.cell 1
 | 2,_=>exact P.cell 2
 | 3,_=>exact P.cell 3
theorem awake_any (w:World):Calls Tryz.prog 5 #[] w fun e w'=>e=.returned (.bool true)/\Below w.heap.size w w':=by
 have E42:=eq42;have E48:=eq48;have BM:=buildMesh;have B7:=build7;have B4:=build4;go_enter Tryz.func5,Tryz.ntmps5;go_wp2_with fail;refine (need_sample _).mono ?_;rintro e w1 ⟨rfl,hb1⟩;have hB1:Below w.heap.size w w1:=hb1;clear hb1;have hb2:Below w.heap.size w ((w1.alloc (.cells #[.int .i64 2,.int .i64 5] 29))):=hB1.alloc hB1.size _;have R:Bk (w1.alloc (.cells #[.int .i64 2,.int .i64 5] 29)) w1.heap.size 29 #[.int .i64 2,.int .i64 5]:=Aa rfl;go_wp2_with fail;refine (ratioOf_any (some ⟨w1.heap.size+1,0,none⟩) 2 meshL _ (meshRow _ _ (by simp)) (by decide)).mono ?_
 rintro e w2 ⟨rfl,hb3⟩;rw [val_ratio];replace R:=(R.alloc _).keep hb3;have hB2:Below w.heap.size w w2:=(hb2.alloc hb2.size _).trans (hb3.mono (by have:=hB1.size;simp;omega))
 clear hB1 hb2 hb3;have hb2:Below w.heap.size w ((w2.alloc (.cells #[.int .i64 15,.int .i64 4] 80))):=hB2.alloc hB2.size _;have Q:Bk (w2.alloc (.cells #[.int .i64 15,.int .i64 4] 80)) w2.heap.size 80 #[.int .i64 15,.int .i64 4]:=Aa rfl;replace R:=R.alloc (.cells #[.int .i64 15,.int .i64 4] 80);clear hB2;go_wp2_with fail;refine (notch_seven (w2.heap.size+1) 1 _ (Aa (by simp))).mono ?_
 rintro e w3 ⟨v,u,rfl,hown,hb3⟩;replace R:=(R.alloc _).keep hb3;replace Q:=(Q.alloc _).keep hb3;have hz2:=hb2.size;have hB3:Below w.heap.size w w3:=(hb2.alloc hb2.size _).trans (hb3.mono (by simp at hz2 ⊢;omega))
 have r0:=R.cell 0;have r1:=R.cell 1;have q0:=Q.cell 0;have q1:=Q.cell 1;simp at r0 r1 q0 q1;have C1:=bytesRow hown;have C2:=bytesNew w3 _ rfl;have HH:=Hd hash_nil;clear R Q hown hb2 hb3 hz2;go_wp2_with fail;refine (HH.out _).mono ?_;rintro e w4 ⟨rfl,rfl⟩;go_wp2_with fail;go_ret;exact ⟨rfl,hB3.alloc hB3.size _⟩
end Go.Proofs.YteihcodicfoiaaaGreat
