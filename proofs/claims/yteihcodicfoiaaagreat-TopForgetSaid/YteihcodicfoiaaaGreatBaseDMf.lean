/-
  A base as data, and in memory.
-/
import Derived.Test.YteihcodicfoiaaaGreat2Mf
import Derived.Test.YteihcodicfoiaaaGreatEachMf
import Derived.Test.YteihcodicfoiaaaGreatGRatioMf
namespace Go.Proofs.YteihcodicfoiaaaGreat
open Go Go.RowKit
abbrev Sl:=Option Addr×Nat
structure Al where
 bed:Fac
 run:Fac
 drive:List (List Mv)
 lift:Int
 top:Int
 grades:List Int
 slo:Int
 shi:Int
 s0:List (Int×Int)
 s1:List (Int×Int)
 a0:List (Int×Int)
 a1:List (Int×Int)
 dlo:Int
 dhi:Int
 wide:Int
 caps:List Int
 reach:List (List Int)
 compass:List (Int×Int)
 pockets:List (Int×Int×Int)
 tol:Int
 meshes:List Fr
 houses:Int
structure Df where
 bed:Sl
 run:Sl
 drive:Sl
 rows:List Sl
 grades:Sl
 s0:Sl
 s1:Sl
 a0:Sl
 a1:Sl
 caps:Sl
 reach:Sl
 rrows:List Sl
 compass:Sl
 pockets:Sl
 meshes:Sl
def Al.arr (b:Al) (z:Df):Array Value :=
 #[.int .i64 b.bed.eye,.int .i64 b.bed.rings,.int .i64 b.bed.sec,.slice z.bed.1 b.bed.kinds.length z.bed.2,
  .int .i64 b.run.eye,.int .i64 b.run.rings,.int .i64 b.run.sec,.slice z.run.1 b.run.kinds.length z.run.2,
  .slice z.drive.1 b.drive.length z.drive.2,
  .int .i64 b.lift,.int .i64 b.top,.slice z.grades.1 b.grades.length z.grades.2,.int .i64 b.slo,.int .i64 b.shi,
  .slice z.s0.1 b.s0.length z.s0.2,.slice z.s1.1 b.s1.length z.s1.2,.slice z.a0.1 b.a0.length z.a0.2,.slice z.a1.1 b.a1.length z.a1.2,
  .int .i64 b.dlo,.int .i64 b.dhi,.int .i64 b.wide,.slice z.caps.1 b.caps.length z.caps.2,.slice z.reach.1 b.reach.length z.reach.2,
  .slice z.compass.1 b.compass.length z.compass.2,.slice z.pockets.1 b.pockets.length z.pockets.2,.int .i64 b.tol,
  .slice z.meshes.1 b.meshes.length z.meshes.2,.int .i64 b.houses]
def rowV {α:Type} (rows:List Sl) (ls:List (List α)) (i:Nat):Value:=.slice (rows.getD i (none,0)).1 (ls.getD i []).length (rows.getD i (none,0)).2
def Fk (l:List (Int×Int×Int)):List Value:=l.flatMap fun x=>[.int .i64 x.1,.int .i64 x.2.1,.int .i64 x.2.2]
structure Fa (w:World) (b:Al) (z:Df):Prop where
 bed:Ad w z.bed.1 (Ac b.bed.kinds)
 run:Ad w z.run.1 (Ac b.run.kinds)
 drive:Ad w z.drive.1 ((List.range b.drive.length).map (rowV z.rows b.drive))
 rows:∀ i,i<b.drive.length->Ad w (z.rows.getD i (none,0)).1 (Gz (b.drive.getD i []))
 grades:Ad w z.grades.1 (Ac b.grades)
 s0:Ad w z.s0.1 (Am b.s0)
 s1:Ad w z.s1.1 (Am b.s1)
 a0:Ad w z.a0.1 (Am b.a0)
 a1:Ad w z.a1.1 (Am b.a1)
 caps:Ad w z.caps.1 (Ac b.caps)
 reach:Ad w z.reach.1 ((List.range b.reach.length).map (rowV z.rrows b.reach))
 rrows:∀ i,i<b.reach.length->Ad w (z.rrows.getD i (none,0)).1 (Ac (b.reach.getD i []))
 compass:Ad w z.compass.1 (Am b.compass)
 pockets:Ad w z.pockets.1 (Fk b.pockets)
 meshes:Ad w z.meshes.1 (Ff b.meshes)
theorem Fa.below {w w':World} {b:Al} {z:Df} (h:Fa w b z) (hb:Below w.heap.size w w'):Fa w' b z :=
 ⟨h.bed.below hb,h.run.below hb,h.drive.below hb,fun i hi=>(h.rows i hi).below hb,h.grades.below hb,h.s0.below hb,h.s1.below hb,h.a0.below hb,h.a1.below hb,h.caps.below hb,h.reach.below hb,
  fun i hi=>(h.rrows i hi).below hb,h.compass.below hb,h.pockets.below hb,h.meshes.below hb⟩
theorem row_cell {w:World} {A:Option Addr} {n:Nat} {f:Nat->Value} (h:Ad w A ((List.range n).map f)) (h0:0<n):∃ b off,A=some ⟨b,off,none⟩/\b<w.heap.size/\∀ k,k<n->w.cell? ⟨b,off+k,none⟩=some (f k):=by
 obtain ⟨b,off,h1,h2,h3⟩:=h (by simpa using h0)
 exact ⟨b,off,h1,h2,fun k hk=>h3 k _ (by simp [hk])⟩
theorem pocket_row {w:World} {A:Option Addr} {l:List (Int×Int×Int)} (h:Ad w A (Fk l)) (h0:0<l.length) :
  ∃ b off,A=some ⟨b,off,none⟩/\b<w.heap.size/\∀ k,k<l.length->w.cell? ⟨b,off+k*3,none⟩=some (.int .i64 (l.getD k (0,0,0)).1)/\w.cell? ⟨b,off+k*3+1,none⟩=some (.int .i64 (l.getD k (0,0,0)).2.1)/\w.cell? ⟨b,off+k*3+2,none⟩=some (.int .i64 (l.getD k (0,0,0)).2.2):=by
 have hl:(Fk l).length=l.length*3:=Ci _ 3 (fun _=>rfl) l
 obtain ⟨b,off,h1,h2,h3⟩:=h.some_ (by omega)
 refine ⟨b,off,h1,h2,fun k hk=>?_⟩
 have e:=fun j (hj:j<3)=>Cw (fun x:Int×Int×Int=>[Value.int .i64 x.1,Value.int .i64 x.2.1,Value.int .i64 x.2.2]) 3 (fun _=>rfl) (by omega) l k j hk hj
 rw [Aj _ _ hk];exact ⟨h3 (k*3) _ (e 0 (by omega)),by rw [Nat.add_assoc];exact h3 (k*3+1) _ (e 1 (by omega)),by rw [Nat.add_assoc];exact h3 (k*3+2) _ (e 2 (by omega))⟩
structure Al.Few (b:Al):Prop where
 rings:b.bed.rings<=4
 sec:b.bed.sec<=6
 rk:b.run.kinds.length<=24
 bk:b.bed.kinds.length<=24
 grades:b.grades.length<=20
 caps:b.caps.length<=8
 pockets:b.pockets.length<=4
 compass:b.compass.length<=20
 meshes:b.meshes.length<=20
 s0:b.s0.length<=40
 s1:b.s1.length<=40
 a0:b.a0.length<=40
 a1:b.a1.length<=40
 reach:b.reach.length<=20
 rrow:∀ l∈b.reach,l.length<=70
 drive:b.drive.length<=20
 drow:∀ l∈b.drive,l.length<=10
end Go.Proofs.YteihcodicfoiaaaGreat
