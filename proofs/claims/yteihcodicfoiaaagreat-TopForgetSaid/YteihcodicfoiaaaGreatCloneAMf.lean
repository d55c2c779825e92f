/-
  What is proved: contracts of slices.Clone at integers, points, pockets and spans, of any slice.
-/
import Derived.Test.YteihcodicfoiaaaGreat8Mf
namespace Go.Proofs.YteihcodicfoiaaaGreat
set_option maxRecDepth 100000
set_option maxHeartbeats 400000
open Go Go.RowKit
theorem Js {w:World} {p:Addr} {b o:Nat} {u:Value} (h:b≠p.block):(w.setCell p u).cell? ⟨b,o,none⟩=w.cell? ⟨b,o,none⟩:=by
 simp only [World.cell?];rw [Below.heap_setCell w p u b h]
theorem own_new {w:World} {base:Nat} {e:TypeId} {size n m c:Nat} {A:Option Addr} {xs:List Value} (h:w.ownsRow base e size (.slice A m c) n xs):∀ a,A=some a->base<=a.block:=by
 rintro a rfl;rcases h.2 with ⟨hv,_⟩ | ⟨g,cap,cur,hv,hb,_⟩
 ·cases hv
 ·injection hv with hv
  injection hv with hv
  subst hv;exact hb
theorem Ad.farA {w:World} {A:Option Addr} {xs:List Value} (h:Ad w A xs) {p:Addr} (hp:∀ a,A=some a->a.block≠p.block) (u:Value):Ad (w.setCell p u) A xs:=fun h0=>by
 obtain ⟨b,off,rfl,h1,h2⟩:=h h0;exact ⟨b,off,rfl,by simpa using h1,fun j u' hu=>(Js (hp _ rfl)).trans (h2 j u' hu)⟩
def CloneP (n:Nat) (xs:List Value) (w:World) (e:Ending) (w':World):Prop :=
 (∃ A c,e=.returned (.slice A n c)/\Ad w' A xs/\∀ a,A=some a->w.heap.size<=a.block)/\Below w.heap.size w w'
theorem clone_ints_nil' (c:Nat) (w:World):Calls Tryz.prog 111 #[.slice none 0 c] w fun e w'=>e=.returned (.slice none 0 0)/\w'=w:=by
 have hnil:=fun (W:World)=>Lib.run_eql_slice_nil (P:=Tryz.prog) W 22 3 none 0 c 0 0 Tryz.underlying22
 go_enter Tryz.func111,Tryz.ntmps111;go_wp2_with fail;go_ret;exact ⟨rfl,rfl⟩
theorem clone_ints_zero (a:Addr) (c:Nat) (w:World) :
  Calls Tryz.prog 111 #[.slice (some a) 0 c] w fun e w'=>∃ v,e=.returned v/\w'.ownsRow w.heap.size 3 1 v 0 []/\Below w.heap.size w w':=by
 obtain ⟨i0,hi0,hz0,hz1,hz2⟩:=info_parts info_ints;have hnil:=fun (W:World)=>Lib.run_eql_slice_nil (P:=Tryz.prog) W 22 3 (some a) 0 c 0 0 Tryz.underlying22
 have e1:0+0<=maxLen:=by unfold maxLen;omega
 have e2:(0+0)*8<=140737488355328:=by omega
 have e3:w.heap.size<=(w.alloc (Obj.cells #[] 3)).heap.size:=by simp
 have E:=Hd (Ai e1 (Ai e2 e3));clear e1 e2 e3;go_enter Tryz.func111,Tryz.ntmps111;go_wp2_with (at_builtin;refine wpList_append_own _ rfl _ _ 22 rfl w.heap.size 3 i0 _ 1 8 Tryz.underlying22 hi0 hz0 hz1 hz2 rfl (by decide) _ _ _ rfl (World.ownsRow_made w #[] 0 Le (Nat.zero_le _) rfl) a 0 c [] rfl rfl (fun j u hu=>by simp at hu) (fun u hu=>by cases hu) E.out.1 E.out.2.1 E.out.2.2 ?_;intro v w1 hown hg _)
 go_ret;refine ⟨v,rfl,by simpa using hown,((Below.refl _ _).alloc Le (.cells #[] 3)).grown hg (by simp) ?_⟩
 intro k hk;have:w.heap.size=k:=by injection hk
 omega
theorem clone_ints_any (A:Option Addr) (c n:Nat) (xs:List Value) (w:World) (hn:n<=65536) (hl:xs.length=n*1) (h1:Fo xs) (hx:Ad w A xs) :
  Calls Tryz.prog 111 #[.slice A n c] w (CloneP n xs w):=by
 by_cases h0:0<n
 ·obtain ⟨b,off,rfl,hr⟩:=hx.some_ (by omega)
  refine (clone_ints_some b off c n xs w hn hl h1 hr).mono ?_;rintro e w' ⟨v,rfl,hown,hb⟩;obtain ⟨A',c',rfl,_,h3,h4⟩:=Au hown;exact ⟨⟨A',c',rfl,h3,own_new hown⟩,hb⟩
 ·obtain rfl:n=0:=by omega
  obtain rfl:xs=[]:=List.eq_nil_of_length_eq_zero (by omega)
  cases A with
  | none =>
   refine (clone_ints_nil' c w).mono ?_;rintro e w' ⟨rfl,rfl⟩;exact ⟨⟨none,0,rfl,fun h=>by simp at h,fun a h=>by cases h⟩,Below.refl _ _⟩
  | some a =>
   refine (clone_ints_zero a c w).mono ?_;rintro e w' ⟨v,rfl,hown,hb⟩;obtain ⟨A',c',rfl,_,h3,_⟩:=Au hown;exact ⟨⟨A',c',rfl,h3,own_new hown⟩,hb⟩
theorem clone_points_nil' (c:Nat) (w:World):Calls Tryz.prog 112 #[.slice none 0 c] w fun e w'=>e=.returned (.slice none 0 0)/\w'=w:=by
 have hnil:=fun (W:World)=>Lib.run_eql_slice_nil (P:=Tryz.prog) W 35 152 none 0 c 0 0 Tryz.underlying35
 go_enter Tryz.func112,Tryz.ntmps112;go_wp2_with fail;go_ret;exact ⟨rfl,rfl⟩
theorem clone_points_zero (a:Addr) (c:Nat) (w:World) :
  Calls Tryz.prog 112 #[.slice (some a) 0 c] w fun e w'=>∃ v,e=.returned v/\w'.ownsRow w.heap.size 152 2 v 0 []/\Below w.heap.size w w':=by
 obtain ⟨i0,hi0,hz0,hz1,hz2⟩:=info_parts info_points;have hnil:=fun (W:World)=>Lib.run_eql_slice_nil (P:=Tryz.prog) W 35 152 (some a) 0 c 0 0 Tryz.underlying35
 have e1:0+0<=maxLen:=by unfold maxLen;omega
 have e2:(0+0)*16<=140737488355328:=by omega
 have e3:w.heap.size<=(w.alloc (Obj.cells #[] 152)).heap.size:=by simp
 have E:=Hd (Ai e1 (Ai e2 e3));clear e1 e2 e3;go_enter Tryz.func112,Tryz.ntmps112;go_wp2_with (at_builtin;refine wpList_append_own _ rfl _ _ 35 rfl w.heap.size 152 i0 _ 2 16 Tryz.underlying35 hi0 hz0 hz1 hz2 rfl (by decide) _ _ _ rfl (World.ownsRow_made w #[] 0 Le (Nat.zero_le _) rfl) a 0 c [] rfl rfl (fun j u hu=>by simp at hu) (fun u hu=>by cases hu) E.out.1 E.out.2.1 E.out.2.2 ?_;intro v w1 hown hg _)
 go_ret;refine ⟨v,rfl,by simpa using hown,((Below.refl _ _).alloc Le (.cells #[] 152)).grown hg (by simp) ?_⟩
 intro k hk;have:w.heap.size=k:=by injection hk
 omega
theorem clone_points_any (A:Option Addr) (c n:Nat) (xs:List Value) (w:World) (hn:n<=65536) (hl:xs.length=n*2) (h1:Fo xs) (hx:Ad w A xs) :
  Calls Tryz.prog 112 #[.slice A n c] w (CloneP n xs w):=by
 by_cases h0:0<n
 ·obtain ⟨b,off,rfl,hr⟩:=hx.some_ (by omega)
  refine (clone_points_some b off c n xs w hn hl h1 hr).mono ?_;rintro e w' ⟨v,rfl,hown,hb⟩;obtain ⟨A',c',rfl,_,h3,h4⟩:=Au hown;exact ⟨⟨A',c',rfl,h3,own_new hown⟩,hb⟩
 ·obtain rfl:n=0:=by omega
  obtain rfl:xs=[]:=List.eq_nil_of_length_eq_zero (by omega)
  cases A with
  | none =>
   refine (clone_points_nil' c w).mono ?_;rintro e w' ⟨rfl,rfl⟩;exact ⟨⟨none,0,rfl,fun h=>by simp at h,fun a h=>by cases h⟩,Below.refl _ _⟩
  | some a =>
   refine (clone_points_zero a c w).mono ?_;rintro e w' ⟨v,rfl,hown,hb⟩;obtain ⟨A',c',rfl,_,h3,_⟩:=Au hown;exact ⟨⟨A',c',rfl,h3,own_new hown⟩,hb⟩
theorem clone_pockets_nil' (c:Nat) (w:World):Calls Tryz.prog 113 #[.slice none 0 c] w fun e w'=>e=.returned (.slice none 0 0)/\w'=w:=by
 have hnil:=fun (W:World)=>Lib.run_eql_slice_nil (P:=Tryz.prog) W 36 154 none 0 c 0 0 Tryz.underlying36
 go_enter Tryz.func113,Tryz.ntmps113;go_wp2_with fail;go_ret;exact ⟨rfl,rfl⟩
theorem clone_pockets_zero (a:Addr) (c:Nat) (w:World) :
  Calls Tryz.prog 113 #[.slice (some a) 0 c] w fun e w'=>∃ v,e=.returned v/\w'.ownsRow w.heap.size 154 3 v 0 []/\Below w.heap.size w w':=by
 obtain ⟨i0,hi0,hz0,hz1,hz2⟩:=info_parts info_pockets;have hnil:=fun (W:World)=>Lib.run_eql_slice_nil (P:=Tryz.prog) W 36 154 (some a) 0 c 0 0 Tryz.underlying36
 have e1:0+0<=maxLen:=by unfold maxLen;omega
 have e2:(0+0)*24<=140737488355328:=by omega
 have e3:w.heap.size<=(w.alloc (Obj.cells #[] 154)).heap.size:=by simp
 have E:=Hd (Ai e1 (Ai e2 e3));clear e1 e2 e3;go_enter Tryz.func113,Tryz.ntmps113;go_wp2_with (at_builtin;refine wpList_append_own _ rfl _ _ 36 rfl w.heap.size 154 i0 _ 3 24 Tryz.underlying36 hi0 hz0 hz1 hz2 rfl (by decide) _ _ _ rfl (World.ownsRow_made w #[] 0 Le (Nat.zero_le _) rfl) a 0 c [] rfl rfl (fun j u hu=>by simp at hu) (fun u hu=>by cases hu) E.out.1 E.out.2.1 E.out.2.2 ?_;intro v w1 hown hg _)
 go_ret;refine ⟨v,rfl,by simpa using hown,((Below.refl _ _).alloc Le (.cells #[] 154)).grown hg (by simp) ?_⟩
 intro k hk;have:w.heap.size=k:=by injection hk
 omega
theorem clone_pockets_any (A:Option Addr) (c n:Nat) (xs:List Value) (w:World) (hn:n<=65536) (hl:xs.length=n*3) (h1:Fo xs) (hx:Ad w A xs) :
  Calls Tryz.prog 113 #[.slice A n c] w (CloneP n xs w):=by
 by_cases h0:0<n
 ·obtain ⟨b,off,rfl,hr⟩:=hx.some_ (by omega)
  refine (clone_pockets_some b off c n xs w hn hl h1 hr).mono ?_;rintro e w' ⟨v,rfl,hown,hb⟩;obtain ⟨A',c',rfl,_,h3,h4⟩:=Au hown;exact ⟨⟨A',c',rfl,h3,own_new hown⟩,hb⟩
 ·obtain rfl:n=0:=by omega
  obtain rfl:xs=[]:=List.eq_nil_of_length_eq_zero (by omega)
  cases A with
  | none =>
   refine (clone_pockets_nil' c w).mono ?_;rintro e w' ⟨rfl,rfl⟩;exact ⟨⟨none,0,rfl,fun h=>by simp at h,fun a h=>by cases h⟩,Below.refl _ _⟩
  | some a =>
   refine (clone_pockets_zero a c w).mono ?_;rintro e w' ⟨v,rfl,hown,hb⟩;obtain ⟨A',c',rfl,_,h3,_⟩:=Au hown;exact ⟨⟨A',c',rfl,h3,own_new hown⟩,hb⟩
theorem clone_spans_nil' (c:Nat) (w:World):Calls Tryz.prog 37 #[.slice none 0 c] w fun e w'=>e=.returned (.slice none 0 0)/\w'=w:=by
 have hnil:=fun (W:World)=>Lib.run_eql_slice_nil (P:=Tryz.prog) W 30 29 none 0 c 0 0 Tryz.underlying30
 go_enter Tryz.func37,Tryz.ntmps37;go_wp2_with fail;go_ret;exact ⟨rfl,rfl⟩
theorem clone_spans_zero (a:Addr) (c:Nat) (w:World) :
  Calls Tryz.prog 37 #[.slice (some a) 0 c] w fun e w'=>∃ v,e=.returned v/\w'.ownsRow w.heap.size 29 2 v 0 []/\Below w.heap.size w w':=by
 obtain ⟨i0,hi0,hz0,hz1,hz2⟩:=info_parts info_spans;have hnil:=fun (W:World)=>Lib.run_eql_slice_nil (P:=Tryz.prog) W 30 29 (some a) 0 c 0 0 Tryz.underlying30
 have e1:0+0<=maxLen:=by unfold maxLen;omega
 have e2:(0+0)*16<=140737488355328:=by omega
 have e3:w.heap.size<=(w.alloc (Obj.cells #[] 29)).heap.size:=by simp
 have E:=Hd (Ai e1 (Ai e2 e3));clear e1 e2 e3;go_enter Tryz.func37,Tryz.ntmps37;go_wp2_with (at_builtin;refine wpList_append_own _ rfl _ _ 30 rfl w.heap.size 29 i0 _ 2 16 Tryz.underlying30 hi0 hz0 hz1 hz2 rfl (by decide) _ _ _ rfl (World.ownsRow_made w #[] 0 Le (Nat.zero_le _) rfl) a 0 c [] rfl rfl (fun j u hu=>by simp at hu) (fun u hu=>by cases hu) E.out.1 E.out.2.1 E.out.2.2 ?_;intro v w1 hown hg _)
 go_ret;refine ⟨v,rfl,by simpa using hown,((Below.refl _ _).alloc Le (.cells #[] 29)).grown hg (by simp) ?_⟩
 intro k hk;have:w.heap.size=k:=by injection hk
 omega
end Go.Proofs.YteihcodicfoiaaaGreat
