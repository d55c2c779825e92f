/-
  What is proved: small laws of memory behind a new block, a draw and far stores.
-/
import Derived.Test.YteihcodicfoiaaaGreat2Mf
namespace Go.Proofs.YteihcodicfoiaaaGreat
open Go Go.RowKit
theorem keepa {W:World} {b o:Nat} {v:Value} {x:Obj} (h:W.cell? ⟨b,o,none⟩=some v):(W.alloc x).cell? ⟨b,o,none⟩=some v :=
 Ag Ba h
theorem keepad {W:World} {b o:Nat} {v:Value} {x:Obj} (h:W.cell? ⟨b,o,none⟩=some v):(W.alloc x).drew.cell? ⟨b,o,none⟩=some v:=keepa h
theorem make_ints (M:Nat) (hM:M<=256) (X:World):∃ X',(Instr.makeSlice 22 (.int .i64 M) (.int .i64 M)).run Tryz.prog X=.ok (.slice (some ⟨X.heap.size,0,none⟩) M M) X'/\Bk X' X.heap.size 3 (Ac (List.replicate M 0)).toArray/\Below X.heap.size X X':=by
 obtain ⟨k0,hk0,kz0,kz1,kz2⟩:=info_parts intInfo;obtain ⟨X',hr,ho,hg⟩:=run_make_full (P:=Tryz.prog) X X.heap.size 22 3 k0 _ 1 Tryz.underlying22 hk0 kz0 kz1 .i64 .i64 M (by rw [kz2];omega) (by unfold maxLen;omega) Le
 rw [made_ints] at ho;exact ⟨X',hr,own_full ho,⟨hg.os,hg.tape,hg.output,hg.size,fun k hk=>hg.block k hk (by simp)⟩⟩
end Go.Proofs.YteihcodicfoiaaaGreat
