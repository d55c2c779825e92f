/-
  What is proved: contracts of tallies.two, tallies.check and slices.Grow at samples; of slices.Concat of two rows of bytes.
-/
import Derived.Test.YteihcodicfoiaaaGreatKeepMf
import Derived.Lib.AppendZerosOnto
import Derived.Laws.IdiomStrings
namespace Go.Proofs.YteihcodicfoiaaaGreat
set_option maxRecDepth 100000
set_option maxHeartbeats 4000000
open Go Go.RowKit
attribute [local go_sem ↓] Ei Eh
theorem bytes2_run (W:World) (a b:Value) (ha:a=.int .u8 1\/a=.int .u8 8) (hb:b=.int .u8 0) :
  (Instr.buildSlice 85 2 #[(0,a),(1,b)]).run Tryz.prog W=.ok (.slice (some ⟨W.heap.size,0,none⟩) 2 2) (W.alloc (.cells #[a,b] 5)):=by
 subst hb;rcases ha with rfl | rfl<;>kernel_rfl
theorem two_any (n:Int) (hn:n=1\/n=8) (w:World) :
  Calls Tryz.prog 61 #[.int .i64 n] w fun e w'=>e=.returned (.slice (some ⟨w.heap.size,0,none⟩) 2 2)/\Bk w' w.heap.size 5 #[.int .u8 n,.int .u8 0]/\Below w.heap.size w w':=by
 have B1:=fun W=>bytes2_run W (.int .u8 1) (.int .u8 0) (.inl rfl) rfl
 have B8:=fun W=>bytes2_run W (.int .u8 8) (.int .u8 0) (.inr rfl) rfl
 have hB:Below w.heap.size w (w.alloc (.cells #[.int .u8 n,.int .u8 0] 5)):=Ba;rcases hn with rfl | rfl <;>
 ·go_enter Tryz.func61,Tryz.ntmps61;go_wp2_with fail;go_ret;exact ⟨rfl,Aa rfl,hB⟩
theorem check_seven (g c:Nat) (w:World) (hg:Bk w g 5 #[.int .u8 7]) :
  Calls Tryz.prog 62 #[.slice (some ⟨g,0,none⟩) 1 c] w fun e w'=>e=.returned (.int .i64 8)/\w'=w:=by
 have c0:=hg.cell 0;simp at c0;clear hg;go_enter Tryz.func62,Tryz.ntmps62;go_wp2;go_loopw [3,8] (fun v i wr=>wr=w/\((v=.int .i64 1/\i=.int .i64 0)\/(v=.int .i64 8/\i=.int .i64 1))) (fun _ i _=>1 - (intOf i).toNat)
 case atStart=>exact ⟨rfl,.inl ⟨rfl,rfl⟩⟩
 case round =>
  obtain ⟨rfl,⟨rfl,rfl⟩ | ⟨rfl,rfl⟩⟩:=hrel
  ·go_wp2;go_wp2;go_roundw
   case rel=>simp
   case measure=>decide
  ·go_wp2;go_ret;exact ⟨rfl,rfl⟩
theorem hash_nil (w:World):Calls Tryz.prog 15 #[.slice none 0 0] w fun e w'=>e=.returned (.int .i64 11)/\w'=w:=by
 go_enter Tryz.func15,Tryz.ntmps15;go_wp2;go_loopw [3,8] (fun v i wr=>wr=w/\v=.int .i64 11/\i=.int .i64 0) (fun _ i _=>1 - (intOf i).toNat)
 case atStart=>exact ⟨rfl,rfl,rfl⟩
 case round =>
  obtain ⟨rfl,rfl,rfl⟩:=hrel;go_wp2;go_ret;exact ⟨rfl,rfl⟩
theorem u8Info:(Tryz.prog.info? 5).map (fun i=>(i.zero,i.size,i.bytes))=some (some (.int .u8 0),1,1):=by kernel_rfl
theorem zero_u8 (n:Nat):(Builtin.zeroCells (Value.int .u8 0).cells n).size=n:=by simp [Builtin.zeroCells,Value.cells]
theorem grow_nil (n:Nat) (h0:0<n) (hn:n<=100) (w:World) :
  Calls Tryz.prog 101 #[.slice none 0 0,.int .i64 n] w fun e w'=>∃ v,e=.returned v/\w'.ownsRow w.heap.size 5 1 v 0 []/\Below w.heap.size w w':=by
 obtain ⟨i0,hi0,hz0,hz1,hz2⟩:=info_parts u8Info;have hrz:∀ ty,(Builtin.append_ #[85,3] ty #[.slice none 0 0,.int .i64 (n:Int)]).run Tryz.prog w =
   .ok (.slice (some ⟨w.heap.size,0,none⟩) n (grownCap w n 0 5)) (w.drew.alloc (.cells (Builtin.zeroCells (Value.int .u8 0).cells n ++ Builtin.zeroCells (Value.int .u8 0).cells (grownCap w n 0 5 - n)) 5)):=fun ty =>
  Lib.run_append_nil_zeros w 85 3 ty 5 i0 (.int .u8 0) .i64 .i64 Tryz.underlying85 Tryz.underlying3 hi0 hz0 n h0 (by rw [hz1];decide) (by omega) (by rw [hz2];omega)
 have hG:n<=grownCap w n 0 5:=grownCap_ge w _ _ _;have hG2:grownCap w n 0 5<=maxLen:=grownCap_le_maxLen w n 0 5 (by unfold maxLen;omega)
 generalize grownCap w n 0 5=G at *;have hG63:G<=9223372036854775807:=by unfold maxLen at hG2;omega
 have h1:¬ ((n:Int)<0):=by omega
 have h4:((n:Int) > 0):=by omega
 have hown:World.ownsRow (w.drew.alloc (.cells (Builtin.zeroCells (Value.int .u8 0).cells n ++ Builtin.zeroCells (Value.int .u8 0).cells (G - n)) 5)) w.heap.size 5 1 (.slice (some ⟨w.heap.size,0,none⟩) 0 G) 0 []:=by
  refine ⟨rfl,.inr ⟨w.heap.size,G,_,rfl,Nat.le_refl _,heap_alloc_new w.drew _,Nat.zero_le _,hG2,?_,rfl⟩⟩;rw [Array.size_append,zero_u8,zero_u8];omega
 have hB:Below w.heap.size w (w.drew.alloc (.cells (Builtin.zeroCells (Value.int .u8 0).cells n ++ Builtin.zeroCells (Value.int .u8 0).cells (G - n)) 5)):=((Below.refl _ _).drew).alloc Le _;go_enter Tryz.func101,Tryz.ntmps101;go_wp2_with (at_builtin;refine Lib.wpList_append_run _ rfl _ _ _ _ rfl _ _ rfl rfl _ _ (hrz _) ?_)
 all_goals (go_ret;exact ⟨_,rfl,hown,hB⟩)
theorem concat_21 (g g1 g2 c c1 c2:Nat) (a0 a1 b0:Int) (w:World)
  (hg:Bk w g 85 #[.slice (some ⟨g1,0,none⟩) 2 c1,.slice (some ⟨g2,0,none⟩) 1 c2]) (hg1:Bk w g1 5 #[.int .u8 a0,.int .u8 a1]) (hg2:Bk w g2 5 #[.int .u8 b0]) :
  Calls Tryz.prog 60 #[.slice (some ⟨g,0,none⟩) 2 c] w fun e w'=>∃ v,e=.returned v/\w'.ownsRow w.heap.size 5 1 v 3 [.int .u8 a0,.int .u8 a1,.int .u8 b0]/\Below w.heap.size w w':=by
 obtain ⟨i0,hi0,hz0,hz1,hz2⟩:=info_parts u8Info;have k0:=hg.cell 0;have k1:=hg.cell 1;simp at k0 k1;have E:=Hd (Ai hg (Ai hg1 hg2));clear hg hg1 hg2;go_enter Tryz.func60,Tryz.ntmps60;go_wp2;go_loopw [3,11] (fun v i wr=>w=wr/\((v=.int .i64 0/\i=.int .i64 0)\/(v=.int .i64 2/\i=.int .i64 1)\/(v=.int .i64 3/\i=.int .i64 2))) (fun _ i _=>2 - (intOf i).toNat)
 case atStart=>exact ⟨rfl,.inl ⟨rfl,rfl⟩⟩
 case round =>
  obtain ⟨rfl,⟨rfl,rfl⟩ | ⟨rfl,rfl⟩ | ⟨rfl,rfl⟩⟩:=hrel
  ·go_wp2;go_wp2;go_roundw
   case rel=>simp
   case measure=>decide
  ·go_wp2;go_wp2;go_roundw
   case rel=>simp
   case measure=>decide
  ·go_wp2_with (go_at_call 101;refine (grow_nil 3 (by decide) (by decide) _).mono ?_;rintro e w1 ⟨v0,rfl,hown,hB⟩)
   go_loopw [6,27] (fun v i wr2=>Below w.heap.size w wr2/\((i=.int .i64 0/\wr2.ownsRow w.heap.size 5 1 v 0 [])\/(i=.int .i64 1/\wr2.ownsRow w.heap.size 5 1 v 2 [.int .u8 a0,.int .u8 a1])\/(i=.int .i64 2/\wr2.ownsRow w.heap.size 5 1 v 3 [.int .u8 a0,.int .u8 a1,.int .u8 b0]))) (fun _ i _=>2 - (intOf i).toNat)
   case atStart=>exact ⟨hB,.inl ⟨rfl,hown⟩⟩
   case round =>
    clear hown hB;obtain ⟨hB,⟨rfl,hown⟩ | ⟨rfl,hown⟩ | ⟨rfl,hown⟩⟩:=hrel
    ·obtain ⟨hg,hg1,hg2⟩:=E.out;have m0:=(hg.keep hB).cell 0;have x0:=(hg1.keep hB).cell 0;have x1:=(hg1.keep hB).cell 1;simp at m0 x0 x1;clear hg hg1 hg2;go_wp2_with (at_builtin;refine wpList_append_own _ rfl _ _ 85 rfl w.heap.size 5 i0 _ 1 1 Tryz.underlying85 hi0 hz0 hz1 hz2 rfl (by decide) _ _ _ rfl hown ⟨g1,0,none⟩ 2 c1 [.int .u8 a0,.int .u8 a1] rfl rfl (by intro j u hj;match j with | 0=>simp at hj;subst hj;(rw [De];exact x0) | 1=>simp at hj;subst hj;(rw [De];exact x1) | j+2=>simp at hj) (by simp [Value.oneCell']) (by unfold maxLen;omega) (by omega) hB.size ?_;intro v' w2 hown' hgr _)
     have hB2:=hB.grown hgr hB.size (fun g hg'=>(hown.lt g hg').1)
     clear hgr hown hB;go_wp2;go_roundw
     case rel=>exact ⟨hB2,.inr (.inl ⟨rfl,hown'⟩)⟩
     case measure=>decide
    ·obtain ⟨hg,hg1,hg2⟩:=E.out;have m1:=(hg.keep hB).cell 1;have x0:=(hg2.keep hB).cell 0;simp at m1 x0;clear hg hg1 hg2;go_wp2_with (at_builtin;refine wpList_append_own _ rfl _ _ 85 rfl w.heap.size 5 i0 _ 1 1 Tryz.underlying85 hi0 hz0 hz1 hz2 rfl (by decide) _ _ _ rfl hown ⟨g2,0,none⟩ 1 c2 [.int .u8 b0] rfl rfl (by intro j u hj;match j with | 0=>simp at hj;subst hj;(rw [De];exact x0) | j+1=>simp at hj) (by simp [Value.oneCell']) (by unfold maxLen;omega) (by omega) hB.size ?_;intro v' w2 hown' hgr _)
     have hB2:=hB.grown hgr hB.size (fun g hg'=>(hown.lt g hg').1)
     clear hgr hown hB;go_wp2;go_roundw
     case rel=>exact ⟨hB2,.inr (.inr ⟨rfl,hown'⟩)⟩
     case measure=>decide
    ·go_wp2;go_ret;exact ⟨_,rfl,hown,hB⟩
theorem concat_22 (g g1 g2 c c1 c2:Nat) (a0 a1 b0 b1:Int) (w:World)
  (hg:Bk w g 85 #[.slice (some ⟨g1,0,none⟩) 2 c1,.slice (some ⟨g2,0,none⟩) 2 c2]) (hg1:Bk w g1 5 #[.int .u8 a0,.int .u8 a1]) (hg2:Bk w g2 5 #[.int .u8 b0,.int .u8 b1]) :
  Calls Tryz.prog 60 #[.slice (some ⟨g,0,none⟩) 2 c] w fun e w'=>∃ v,e=.returned v/\w'.ownsRow w.heap.size 5 1 v 4 [.int .u8 a0,.int .u8 a1,.int .u8 b0,.int .u8 b1]/\Below w.heap.size w w':=by
 obtain ⟨i0,hi0,hz0,hz1,hz2⟩:=info_parts u8Info;have k0:=hg.cell 0;have k1:=hg.cell 1;simp at k0 k1;have E:=Hd (Ai hg (Ai hg1 hg2));clear hg hg1 hg2;go_enter Tryz.func60,Tryz.ntmps60;go_wp2;go_loopw [3,11] (fun v i wr=>w=wr/\((v=.int .i64 0/\i=.int .i64 0)\/(v=.int .i64 2/\i=.int .i64 1)\/(v=.int .i64 4/\i=.int .i64 2))) (fun _ i _=>2 - (intOf i).toNat)
 case atStart=>exact ⟨rfl,.inl ⟨rfl,rfl⟩⟩
 case round =>
  obtain ⟨rfl,⟨rfl,rfl⟩ | ⟨rfl,rfl⟩ | ⟨rfl,rfl⟩⟩:=hrel
  ·go_wp2;go_wp2;go_roundw
   case rel=>simp
   case measure=>decide
  ·go_wp2;go_wp2;go_roundw
   case rel=>simp
   case measure=>decide
  ·go_wp2_with (go_at_call 101;refine (grow_nil 4 (by decide) (by decide) _).mono ?_;rintro e w1 ⟨v0,rfl,hown,hB⟩)
   go_loopw [6,27] (fun v i wr2=>Below w.heap.size w wr2/\((i=.int .i64 0/\wr2.ownsRow w.heap.size 5 1 v 0 [])\/(i=.int .i64 1/\wr2.ownsRow w.heap.size 5 1 v 2 [.int .u8 a0,.int .u8 a1])\/(i=.int .i64 2/\wr2.ownsRow w.heap.size 5 1 v 4 [.int .u8 a0,.int .u8 a1,.int .u8 b0,.int .u8 b1]))) (fun _ i _=>2 - (intOf i).toNat)
   case atStart=>exact ⟨hB,.inl ⟨rfl,hown⟩⟩
   case round =>
    clear hown hB;obtain ⟨hB,⟨rfl,hown⟩ | ⟨rfl,hown⟩ | ⟨rfl,hown⟩⟩:=hrel
    ·obtain ⟨hg,hg1,hg2⟩:=E.out;have m0:=(hg.keep hB).cell 0;have x0:=(hg1.keep hB).cell 0;have x1:=(hg1.keep hB).cell 1;simp at m0 x0 x1;clear hg hg1 hg2;go_wp2_with (at_builtin;refine wpList_append_own _ rfl _ _ 85 rfl w.heap.size 5 i0 _ 1 1 Tryz.underlying85 hi0 hz0 hz1 hz2 rfl (by decide) _ _ _ rfl hown ⟨g1,0,none⟩ 2 c1 [.int .u8 a0,.int .u8 a1] rfl rfl (by intro j u hj;match j with | 0=>simp at hj;subst hj;(rw [De];exact x0) | 1=>simp at hj;subst hj;(rw [De];exact x1) | j+2=>simp at hj) (by simp [Value.oneCell']) (by unfold maxLen;omega) (by omega) hB.size ?_;intro v' w2 hown' hgr _)
     have hB2:=hB.grown hgr hB.size (fun g hg'=>(hown.lt g hg').1)
     clear hgr hown hB;go_wp2;go_roundw
     case rel=>exact ⟨hB2,.inr (.inl ⟨rfl,hown'⟩)⟩
     case measure=>decide
    ·obtain ⟨hg,hg1,hg2⟩:=E.out;have m1:=(hg.keep hB).cell 1;have x0:=(hg2.keep hB).cell 0;have x1:=(hg2.keep hB).cell 1;simp at m1 x0 x1;clear hg hg1 hg2;go_wp2_with (at_builtin;refine wpList_append_own _ rfl _ _ 85 rfl w.heap.size 5 i0 _ 1 1 Tryz.underlying85 hi0 hz0 hz1 hz2 rfl (by decide) _ _ _ rfl hown ⟨g2,0,none⟩ 2 c2 [.int .u8 b0,.int .u8 b1] rfl rfl (by intro j u hj;match j with | 0=>simp at hj;subst hj;(rw [De];exact x0) | 1=>simp at hj;subst hj;(rw [De];exact x1) | j+2=>simp at hj) (by simp [Value.oneCell']) (by unfold maxLen;omega) (by omega) hB.size ?_;intro v' w2 hown' hgr _)
     have hB2:=hB.grown hgr hB.size (fun g hg'=>(hown.lt g hg').1)
     clear hgr hown hB;go_wp2;go_roundw
     case rel=>exact ⟨hB2,.inr (.inr ⟨rfl,hown'⟩)⟩
     case measure=>decide
    ·go_wp2;go_ret;exact ⟨_,rfl,hown,hB⟩
theorem own_mono {w:World} {a b:Nat} {e:TypeId} {size:Nat} {v:Value} {n:Nat} {xs:List Value} (h:w.ownsRow a e size v n xs) (hab:b<=a):w.ownsRow b e size v n xs:=by
 obtain ⟨h1,h2 | ⟨g,cap,cur,h2,h3,h4⟩⟩:=h
 ·exact ⟨h1,.inl h2⟩
 ·exact ⟨h1,.inr ⟨g,cap,cur,h2,by omega,h4⟩⟩
theorem rows2_run (W:World) (a b:Value) (g1 g2 c1 c2 n1 n2:Nat) (ha:a=.slice (some ⟨g1,0,none⟩) n1 c1) (hb:b=.slice (some ⟨g2,0,none⟩) n2 c2) :
  (Instr.buildSlice 219 2 #[(0,a),(1,b)]).run Tryz.prog W=.ok (.slice (some ⟨W.heap.size,0,none⟩) 2 2) (W.alloc (.cells #[a,b] 85)):=by
 subst hb;subst ha
 kernel_rfl
theorem halves_seven (g c:Nat) (w:World) (hg:Bk w g 5 #[.int .u8 7]) :
  Calls Tryz.prog 30 #[.slice (some ⟨g,0,none⟩) 1 c] w fun e w'=>∃ v u,e=.returned (.tuple #[v,u])/\w'.ownsRow w.heap.size 5 1 u 4 [.int .u8 1,.int .u8 0,.int .u8 8,.int .u8 0]/\Below w.heap.size w w':=by
 have B:=fun W g1 g2 c1 c2 n1 n2=>rows2_run W (.slice (some ⟨g1,0,none⟩) n1 c1) (.slice (some ⟨g2,0,none⟩) n2 c2) g1 g2 c1 c2 n1 n2 rfl rfl
 go_enter Tryz.func30,Tryz.ntmps30;go_wp2_with fail;refine (two_any 1 (.inl rfl) _).mono ?_;rintro e w1 ⟨rfl,hr1,hb1⟩;have hg1:=hg.keep hb1;go_wp2_with fail;refine (concat_21 w1.heap.size w.heap.size g 2 2 c 1 0 7 _ (Aa rfl) (hr1.alloc _) (hg1.alloc _)).mono ?_;rintro e w2 ⟨v,rfl,_,hb2⟩;have hB1:Below w.heap.size w w2:=(hb1.alloc hb1.size _).trans (hb2.mono (by have:=hb1.size;simp;omega))
 have hg2:=(hg1.alloc _).keep hb2;clear hb2 hg1 hr1 hb1 hg;go_wp2_with fail;refine (two_any 1 (.inl rfl) _).mono ?_;rintro e w3 ⟨rfl,hr3,hb3⟩;have hB3:=hB1.trans (hb3.mono hB1.size);have hg3:=hg2.keep hb3;clear hg2 hb3;go_wp2_with fail;refine (check_seven g c _ hg3).mono ?_;rintro e w4 ⟨rfl,rfl⟩;go_wp2_with fail;refine (two_any 8 (.inr rfl) _).mono ?_;rintro e w5 ⟨rfl,hr5,hb5⟩;have hB5:=hB3.trans (hb5.mono hB3.size);have hr3:=hr3.keep hb5;clear hg3 hb5 hB3;go_wp2_with fail;refine (concat_22 w5.heap.size w2.heap.size w4.heap.size 2 2 2 1 0 8 0 _ (Aa rfl) (hr3.alloc _) (hr5.alloc _)).mono ?_;rintro e w6 ⟨u,rfl,hown,hb6⟩;have hz:=hB5.size;have hB6:Below w.heap.size w w6:=(hB5.alloc hB5.size _).trans (hb6.mono (by simp;omega))
 have hown':w6.ownsRow w.heap.size 5 1 u 4 [.int .u8 1,.int .u8 0,.int .u8 8,.int .u8 0]:=own_mono hown (by simp;omega)
 clear hown hb6 hB5 hr3 hr5;go_wp2_with fail;exact bodyPost_ret (v:=.tuple #[v,u]) (by simp [results,Tryz.results30,go_sem]) rfl ⟨v,u,rfl,hown',hB6⟩
theorem notch_seven (g c:Nat) (w:World) (hg:Bk w g 5 #[.int .u8 7]) :
  Calls Tryz.prog 14 #[.slice (some ⟨g,0,none⟩) 1 c] w fun e w'=>∃ v u,e=.returned (.tuple #[v,u,.int .i64 0])/\w'.ownsRow w.heap.size 5 1 u 4 [.int .u8 1,.int .u8 0,.int .u8 8,.int .u8 0]/\Below w.heap.size w w':=by
 have HH:=Hd (halves_seven g c w hg);clear hg;go_enter Tryz.func14,Tryz.ntmps14;go_wp2_with fail;refine HH.out.mono ?_;rintro e w1 ⟨v,u,rfl,hown,hB⟩;go_wp2_with fail;exact bodyPost_ret (v:=.tuple #[v,u,.int .i64 0]) (by simp [results,Tryz.results14,go_sem]) rfl ⟨v,u,rfl,hown,hB⟩
end Go.Proofs.YteihcodicfoiaaaGreat
