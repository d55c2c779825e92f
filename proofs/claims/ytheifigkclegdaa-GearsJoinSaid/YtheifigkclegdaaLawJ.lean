/-
  What is proved: the walk of GearsJoin.
-/
import Derived.Test.YtheifigkclegdaaShort
import Derived.Test.YtheifigkclegdaaJoinM
import Derived.Deep.RegionHeld3
import Derived.Deep.AppendLies
namespace Go.Proofs.Ytheifigkclegdaa
open Go.RowKit
attribute [local go_sem] Res.val

theorem own_far {w : World} {base : Nat} {e : TypeId} {size : Nat} {v : Value} {n : Nat} {xs : List Value} (h : w.ownsRow base e size v n xs) {a : Addr} (ha : v.ownBlock ≠ some a.block) (u : Value) : (w.setCell a u).ownsRow base e size v n xs :=
  h.kept (row := some a.block) ⟨rfl, rfl, rfl, by simp, fun k _ hk => heap_setCell_other w a k u (fun e => hk (by rw [e]))⟩ (.inr ha)

theorem meshCells_append (L M : List Mesh) : meshCells L ++ meshCells M = meshCells (L ++ M) := by simp [meshCells]
theorem meshCells_one (L : List Mesh) : ∀ u ∈ meshCells L, u.oneCell' = true := by
  intro u hu
  obtain ⟨m, _, hm⟩ := List.mem_flatMap.1 hu
  simp at hm
  rcases hm with rfl | rfl | rfl <;> rfl

/-- What the region of the two appends leaves. -/
def Joined (W : World) (N : Nat) (cs : List Value) (c : Value) (wx : World) : Prop :=
  ∃ o g cap, c = .pointer (some ⟨o, 0, none⟩) ∧ Bk wx o 24 #[.slice (some ⟨g, 0, none⟩) N cap] ∧ RowAt wx (some ⟨g, 0, none⟩) cs ∧ Below W.heap.size W wx

theorem joined_mk {W w : World} {N cap g o : Nat} {cs : List Value} {arr : Array Value} (hb : Below W.heap.size W w) (ho : Bk w o 24 arr) (ha : arr.size = 1) (hown : w.ownsRow W.heap.size 36 3 (.slice (some ⟨g, 0, none⟩) N cap) N cs) (hoW : W.heap.size ≤ o) (hne : g ≠ o) :
    Joined W N cs (.pointer (some ⟨o, 0, none⟩)) (w.setCell ⟨o, 0, none⟩ (.slice (some ⟨g, 0, none⟩) N cap)) := by
  have hown2 := own_far hown (a := ⟨o, 0, none⟩) (by simp [Value.ownBlock]; exact hne) (.slice (some ⟨g, 0, none⟩) N cap)
  obtain ⟨_, _, e, _, hr, _⟩ := own_form hown2
  injection e with e _ _
  subst e
  refine ⟨o, g, cap, rfl, ?_, hr, hb.setCell hoW _⟩
  have h := ho.put 0 (.slice (some ⟨g, 0, none⟩) N cap)
  have e : arr.setIfInBounds 0 (Value.slice (some ⟨g, 0, none⟩) N cap) = #[.slice (some ⟨g, 0, none⟩) N cap] := by
    obtain ⟨l⟩ := arr
    match l, ha with
    | [x], _ => rfl
  rwa [e] at h

theorem step_rows (i0 : TypeInfo) (hi0 : Try.prog.info? 36 = some i0) (hz0 : i0.zero = some (.agg #[.int .i64 0, .int .i64 0, .int .i64 0])) (hz1 : i0.size = 3) (hz2 : i0.bytes = 24)
    {ops : Array Oper} {o : Oper} {a : Act} {K : Act → World → Prop} {Q : Exit → Act → World → Prop} {E : Prop} (w : World) (s x : Operand) (hgd : o.guard = none)
    (ho : o.op = .call { callee := .builtin .append, args := #[s, x], argTypes := #[22, 22] }) (base g0 n c0 b1 o1 m c : Nat) (xs ys : List Value) (hs : a.eval s = .slice (some ⟨g0, 0, none⟩) n c0) (hx : a.eval x = .slice (some ⟨b1, o1, none⟩) m c)
    (hown : w.ownsRow base 36 3 (.slice (some ⟨g0, 0, none⟩) n c0) n xs) (hl : ys.length = m * 3) (hn : ∀ (j : Nat) (u : Value), ys[j]? = some u → w.cell? ((⟨b1, o1, none⟩ : Addr).add j) = some u) (h1 : ∀ u ∈ ys, u.oneCell' = true)
    (hm : 0 < m) (N : Nat) (hN : n + m = N) (e1 : N ≤ maxLen) (e2 : N * 24 ≤ 140737488355328) (hb : base ≤ w.heap.size)
    (h : ∀ g cap w', w'.ownsRow base 36 3 (.slice (some ⟨g, 0, none⟩) N cap) N (xs ++ ys) → w.grownBy w' (some g0) → (g = g0 ∨ g = w.heap.size) → g < w'.heap.size → K (a.put o.dst (.slice (some ⟨g, 0, none⟩) N cap)) w') :
    if Region.wanted o (yielded ops a.tmps) = true then Oper.wp Try.prog o a w K Q else E := by
  subst hN
  exact step_append_lies w hgd s x 22 ho base 36 i0 _ 3 24 Try.underlying22 hi0 hz0 hz1 hz2 rfl (by omega) (.slice (some ⟨g0, 0, none⟩) n c0) n xs hs hown ⟨b1, o1, none⟩ m c ys hx hl hn h1 hm e1 e2 hb w.heap.size rfl
    (fun g cap w' q1 q2 q3 q4 => h g cap w' q1 q2 (q3.elim (fun e => .inl (by simp [Value.ownBlock] at e; exact e.symm)) .inr) q4)

theorem joined_mkD {W w : World} {N cap g : Nat} {cs : List Value} (hb : Below W.heap.size W w) (hown : w.ownsRow W.heap.size 36 3 (.slice (some ⟨g, 0, none⟩) N cap) N cs) :
    Joined W N cs (.pointer (some ⟨w.heap.size, 0, none⟩)) (w.alloc (.cells #[.slice (some ⟨g, 0, none⟩) N cap] 24)) := by
  obtain ⟨_, _, e, _, hr, _⟩ := own_form (hown.alloc (.cells #[.slice (some ⟨g, 0, none⟩) N cap] 24))
  injection e with e _ _
  subst e
  exact ⟨w.heap.size, g, cap, rfl, bk_last rfl, hr, hb.alloc hb.size _⟩

set_option maxRecDepth 100000 in
set_option maxHeartbeats 16000000 in
theorem join_core (A B : Option Addr) (c d : Nat) (L M : List Mesh) (a b r x : Res) (w : World) (hrow : RowAt w A (meshCells L)) (hrow2 : RowAt w B (meshCells M)) (hL1 : 1 ≤ L.length) (hL2 : L.length ≤ 16) (hM2 : M.length ≤ 100) (ha : a.err = 0) (hr : r.err = 0) (hM1 : b.err = 0 → 1 ≤ M.length)
    (h1 : Hid (RetR A L 25 #[.agg #[.slice A L.length c]] a.val)) (h2 : Hid (RetR B M 25 #[.agg #[.slice B M.length d]] b.val))
    (hk : Hid (∀ W, RowAt W A (meshCells L) → Calls Try.prog 37 #[.agg #[.slice A L.length c]] W fun e w' => ∃ A' c', e = .returned (.agg #[.slice A' L.length c']) ∧ RowAt w' A' (meshCells (backL L)) ∧ Below W.heap.size W w'))
    (hq : Hid (∀ A' c', RetR A' (backL L) 25 #[.agg #[.slice A' L.length c']] r.val))
    (ht : Hid (Ret 35 #[.agg #[.int .i64 a.num, .int .i64 a.den], .agg #[.int .i64 r.num, .int .i64 r.den]] (⟨1, 1, 0⟩ : Res).val))
    (hj : Hid (b.err = 0 → L.length + M.length ≤ 16 → ∀ W g cap, RowAt W (some ⟨g, 0, none⟩) (meshCells (L ++ M)) → Calls Try.prog 25 #[.agg #[.slice (some ⟨g, 0, none⟩) (L.length + M.length) cap]] W fun e w' => e = .returned x.val ∧ Below W.heap.size W w'))
    (hp : Hid (b.err = 0 → L.length + M.length ≤ 16 → Ret 35 #[.agg #[.int .i64 a.num, .int .i64 a.den], .agg #[.int .i64 b.num, .int .i64 b.den]] x.val)) :
    Calls Try.prog 9 #[.agg #[.slice A L.length c], .agg #[.slice B M.length d]] w fun e w' => e = .returned (.bool true) ∧ Below w.heap.size w w' := by
  have E42 := eq42
  obtain ⟨i0, hi0, hz0, hz1, hz2⟩ := info_parts meshInfo
  obtain ⟨an, ad, ae⟩ := a
  obtain ⟨bn, bd, be⟩ := b
  obtain ⟨rn, rd, re⟩ := r
  obtain ⟨xn, xd, xe⟩ := x
  simp only at ha hr hj hp hM1
  subst ha hr
  go_enter Try.func9, Try.ntmps9
  go_wp2_with fail
  refine (awake_any _).mono ?_
  rintro e' w0 ⟨rfl, hb0⟩
  have X : Bk w0 w.heap.size 24 #[.slice A L.length c] := ((bk_last rfl).alloc _).keep hb0
  have Y : Bk w0 (w.heap.size + 1) 24 #[.slice B M.length d] := (bk_last (by simp)).keep hb0
  replace hrow := ((hrow.alloc _).alloc _).below hb0
  replace hrow2 := ((hrow2.alloc _).alloc _).below hb0
  have hB0 : Below w.heap.size w w0 := (((Below.refl w.heap.size w).alloc (Nat.le_refl _) _).alloc (by simp <;> omega) _).trans (hb0.mono (by simp <;> omega))
  clear hb0
  have Xc0 := X.cell 0
  simp at Xc0
  have Xl := X.lt
  go_wp2_with fail
  refine (short_true A L.length c _ (by omega)).mono ?_
  rintro e' w1 ⟨rfl, hb1⟩
  replace X := X.keep hb1
  replace Y := Y.keep hb1
  replace hrow := hrow.below hb1
  replace hrow2 := hrow2.below hb1
  have hB1 := hB0.trans (hb1.mono hB0.size)
  clear Xc0 Xl
  clear hb1 hB0
  have Yc0 := Y.cell 0
  simp at Yc0
  have Yl := Y.lt
  go_wp2_with fail
  refine (short_true B M.length d _ (by omega)).mono ?_
  rintro e' w2 ⟨rfl, hb2⟩
  replace X := X.keep hb2
  replace Y := Y.keep hb2
  replace hrow := hrow.below hb2
  replace hrow2 := hrow2.below hb2
  have hB2 := hB1.trans (hb2.mono hB1.size)
  clear Yc0 Yl
  clear hb2 hB1
  have Xc0 := X.cell 0
  simp at Xc0
  have Xl := X.lt
  go_wp2_with fail
  refine (h1.out _ hrow).mono ?_
  rintro e' w3 ⟨rfl, hb3⟩
  replace X := X.keep hb3
  replace Y := Y.keep hb3
  replace hrow := hrow.below hb3
  replace hrow2 := hrow2.below hb3
  have hB3 := hB2.trans (hb3.mono hB2.size)
  clear Xc0 Xl
  clear hb3 hB2
  have Yc0 := Y.cell 0
  simp at Yc0
  have Yl := Y.lt
  go_wp2_with fail
  refine (h2.out _ (hrow2.alloc _)).mono ?_
  rintro e' w4 ⟨rfl, hb4⟩
  have R1 : Bk w4 w3.heap.size 42 #[.int .i64 an, .int .i64 ad] := (bk_last rfl).keep hb4
  replace X := (X.alloc _).keep hb4
  replace Y := (Y.alloc _).keep hb4
  replace hrow := (hrow.alloc _).below hb4
  replace hrow2 := (hrow2.alloc _).below hb4
  have hB4 : Below w.heap.size w w4 := (hB3.alloc hB3.size _).trans (hb4.mono (by have := hB3.size; simp; omega))
  clear Yc0 Yl
  clear hb4 hB3
  have Xc0 := X.cell 0
  simp at Xc0
  have Xl := X.lt
  go_wp2_with fail
  refine (hk.out _ (hrow.alloc _)).mono ?_
  rintro e' w5 ⟨A', c', rfl, hr1, hb5⟩
  have R2 : Bk w5 w4.heap.size 42 #[.int .i64 bn, .int .i64 bd] := (bk_last rfl).keep hb5
  replace X := (X.alloc _).keep hb5
  replace Y := (Y.alloc _).keep hb5
  replace R1 := (R1.alloc _).keep hb5
  replace hrow := (hrow.alloc _).below hb5
  replace hrow2 := (hrow2.alloc _).below hb5
  have hB5 : Below w.heap.size w w5 := (hB4.alloc hB4.size _).trans (hb5.mono (by have := hB4.size; simp; omega))
  clear Xc0 Xl
  clear hb5 hB4
  go_wp2_with fail
  refine (hq.out A' c' _ hr1).mono ?_
  rintro e' w6 ⟨rfl, hb6⟩
  replace X := X.keep hb6
  replace Y := Y.keep hb6
  replace R1 := R1.keep hb6
  replace R2 := R2.keep hb6
  replace hrow := hrow.below hb6
  replace hrow2 := hrow2.below hb6
  replace hr1 := hr1.below hb6
  have hB6 := hB5.trans (hb6.mono hB5.size)
  clear hb6 hB5
  clear hr1
  have R1c0 := R1.cell 0
  have R1c1 := R1.cell 1
  simp at R1c0 R1c1
  have R1l := R1.lt
  go_wp2_with fail
  refine (ht.out _).mono ?_
  rintro e' w7 ⟨rfl, hb7⟩
  have R3 : Bk w7 w6.heap.size 42 #[.int .i64 rn, .int .i64 rd] := (bk_last rfl).keep hb7
  replace X := (X.alloc _).keep hb7
  replace Y := (Y.alloc _).keep hb7
  replace R1 := (R1.alloc _).keep hb7
  replace R2 := (R2.alloc _).keep hb7
  replace hrow := (hrow.alloc _).below hb7
  replace hrow2 := (hrow2.alloc _).below hb7
  have hB7 : Below w.heap.size w w7 := (hB6.alloc hB6.size _).trans (hb7.mono (by have := hB6.size; simp; omega))
  clear R1c0 R1c1 R1l
  clear hb7 hB6
  have Xc0 := X.cell 0
  simp at Xc0
  have Xl := X.lt
  have Yc0 := Y.cell 0
  simp at Yc0
  have Yl := Y.lt
  by_cases hbe : be = 0
  · by_cases hsum : L.length + M.length ≤ 16
    · have hM1 := hM1 hbe
      have hjj := Lib.hid (hj.out hbe hsum)
      have hpp := Lib.hid (hp.out hbe hsum)
      subst hbe
      have hs1 : decide ((16 : Int) < (L.length : Int) + (M.length : Int)) = false := by simp; omega
      have hs2 : (L.length : Int) + (M.length : Int) ≤ 16 := by omega
      go_upto_region 14 with fail
      have R4 : Bk (w7.alloc (Obj.cells #[Value.int IntKind.i64 1, Value.int IntKind.i64 1] 42)) w7.heap.size 42 #[.int .i64 1, .int .i64 1] := bk_last rfl
      replace X := X.alloc (Obj.cells #[Value.int IntKind.i64 1, Value.int IntKind.i64 1] 42)
      replace Y := Y.alloc (Obj.cells #[Value.int IntKind.i64 1, Value.int IntKind.i64 1] 42)
      replace R1 := R1.alloc (Obj.cells #[Value.int IntKind.i64 1, Value.int IntKind.i64 1] 42)
      replace R2 := R2.alloc (Obj.cells #[Value.int IntKind.i64 1, Value.int IntKind.i64 1] 42)
      replace R3 := R3.alloc (Obj.cells #[Value.int IntKind.i64 1, Value.int IntKind.i64 1] 42)
      replace hrow := hrow.alloc (Obj.cells #[Value.int IntKind.i64 1, Value.int IntKind.i64 1] 42)
      replace hrow2 := hrow2.alloc (Obj.cells #[Value.int IntKind.i64 1, Value.int IntKind.i64 1] 42)
      have hB8 := hB7.alloc hB7.size (Obj.cells #[Value.int IntKind.i64 1, Value.int IntKind.i64 1] 42)
      clear Xc0 Xl Yc0 Yl hB7 R4
      generalize w7.alloc (Obj.cells #[Value.int IntKind.i64 1, Value.int IntKind.i64 1] 42) = W at *
      have Xc0 := X.cell 0
      have Yc0 := Y.cell 0
      simp at Xc0 Yc0
      have Xl := X.lt
      have Yl := Y.lt
      obtain ⟨b1, o1, hA, hbl1, _⟩ := hrow.mesh (by omega)
      obtain ⟨b2, o2, hA2, hbl2, _⟩ := hrow2.mesh (by omega)
      have E1 : L.length ≤ maxLen := by unfold maxLen; omega
      have E2 : L.length * 24 ≤ 140737488355328 := by omega
      have E3 : L.length + M.length ≤ maxLen := by unfold maxLen; omega
      have E4 : (L.length + M.length) * 24 ≤ 140737488355328 := by omega
      subst hA hA2
      have hR1 : ∀ w' : World, Below W.heap.size W w' → ∀ (j : Nat) (u : Value), (meshCells L)[j]? = some u → w'.cell? ((⟨b1, o1, none⟩ : Addr).add j) = some u := fun w' hb j u hu => by
        obtain ⟨_, _, e, hlt, hc⟩ := hrow (by rw [meshCells_len]; omega)
        injection e with e
        injection e with e1 e2
        subst e1 e2
        rw [add_at]
        exact keepc hb (hc j u hu)
      have hR2 : ∀ w' : World, Below W.heap.size W w' → ∀ (j : Nat) (u : Value), (meshCells M)[j]? = some u → w'.cell? ((⟨b2, o2, none⟩ : Addr).add j) = some u := fun w' hb j u hu => by
        obtain ⟨_, _, e, hlt, hc⟩ := hrow2 (by rw [meshCells_len]; omega)
        injection e with e
        injection e with e1 e2
        subst e1 e2
        rw [add_at]
        exact keepc hb (hc j u hu)
      have hmadeA : ((W.alloc (Obj.cells #[Value.slice none 0 0] 24)).alloc (Obj.cells #[] 36)).drew.ownsRow W.heap.size 36 3 (.slice (some ⟨W.heap.size + 1, 0, none⟩) 0 0) 0 [] := by
        have := World.ownsRow_made (base := W.heap.size) (e := 36) (size := 3) (W.alloc (Obj.cells #[Value.slice none 0 0] 24)) #[] 0 (by simp) (Nat.zero_le _) rfl
        rw [World.size_alloc] at this
        exact this
      have hmadeC : (W.alloc (Obj.cells #[] 36)).drew.ownsRow W.heap.size 36 3 (.slice (some ⟨W.heap.size, 0, none⟩) 0 0) 0 [] := World.ownsRow_made (base := W.heap.size) (e := 36) (size := 3) W #[] 0 (Nat.le_refl _) (Nat.zero_le _) rfl
      have hmadeB : ((W.alloc (Obj.cells #[] 36)).alloc (Obj.cells #[Value.slice none 0 0] 24)).drew.ownsRow W.heap.size 36 3 (.slice (some ⟨W.heap.size, 0, none⟩) 0 0) 0 [] := (show (W.alloc (Obj.cells #[] 36)).ownsRow W.heap.size 36 3 (.slice (some ⟨W.heap.size, 0, none⟩) 0 0) 0 [] from hmadeC).alloc _
      have hbelC : Below W.heap.size W (W.alloc (Obj.cells #[] 36)).drew := ((Below.refl _ _).alloc (Nat.le_refl _) _).drew
      have hbelA : Below W.heap.size W ((W.alloc (Obj.cells #[Value.slice none 0 0] 24)).alloc (Obj.cells #[] 36)).drew := (((Below.refl _ _).alloc (Nat.le_refl _) _).alloc (by simp) _).drew
      have hbelB : Below W.heap.size W ((W.alloc (Obj.cells #[] 36)).alloc (Obj.cells #[Value.slice none 0 0] 24)).drew := (((Below.refl _ _).alloc (Nat.le_refl _) _).alloc (by simp) _).drew
      go_cut [14] from 85 to 92 (fun cc wx => Joined W (L.length + M.length) (meshCells L ++ meshCells M) cc wx)
      case first =>
        go_region_held3 (fun w' => w'.cell? ⟨w.heap.size, 0, none⟩ = some (.slice (some ⟨b1, o1, none⟩) L.length c) ∧ w'.cell? ⟨w.heap.size + 1, 0, none⟩ = some (.slice (some ⟨b2, o2, none⟩) M.length d))
          (first | go_keep | (constructor <;> go_keep) | (go_split_ands; exact ⟨keepa (by assumption), keepa (by assumption)⟩) | (go_split_ands; exact ⟨keepaa (by omega) (by assumption), keepaa (by omega) (by assumption)⟩) | (go_split_ands; exact ⟨keeps (by simp <;> omega) (by assumption), keeps (by simp <;> omega) (by assumption)⟩) | ((try dsimp only); (repeat' apply And.intro) <;> first | go_keep | (constructor <;> go_keep) | (go_split_ands; first | exact keeps (by simp <;> omega) (by assumption) | exact keeps (by simp <;> omega) (keepa (by assumption)))) | (go_split_ands; (try dsimp only); refine ⟨?_, ?_⟩ <;> first | go_keep | exact keeps (by simp <;> omega) (by assumption) | exact keeps (by simp <;> omega) (keepa (by assumption))) | (go_split_ands; exact ⟨hgrow.cell ‹_› hne1, hgrow.cell ‹_› hne2⟩) | (go_split_ands; exact ⟨hgrow3.cell ‹_› hne3, hgrow3.cell ‹_› hne4⟩))
          ((first
            | (refine step_rows i0 hi0 hz0 hz1 hz2 _ _ _ (by rfl) (by rfl) W.heap.size W.heap.size 0 0 b1 o1 L.length c [] (meshCells L) (by rfl) (by rfl) hmadeC (meshCells_len L) (hR1 _ hbelC) (meshCells_one L) (by omega) L.length (by omega) E1 E2 hbelC.size ?_; intro g1 cap1 w2 hown2 hgrow hat hlt; rw [List.nil_append] at hown2; have hne1 : some w.heap.size ≠ some (W.heap.size) := (by (simp <;> omega)); have hne2 : some (w.heap.size + 1) ≠ some (W.heap.size) := (by (simp <;> omega)); have hB2 : Below W.heap.size W w2 := hbelC.grown hgrow hbelC.size (fun k hk => (by (injection hk with hk; omega))); have hzz2 := hB2.size)
            | (refine step_rows i0 hi0 hz0 hz1 hz2 _ _ _ (by rfl) (by rfl) W.heap.size W.heap.size 0 0 b1 o1 L.length c [] (meshCells L) (by rfl) (by rfl) hmadeB (meshCells_len L) (hR1 _ hbelB) (meshCells_one L) (by omega) L.length (by omega) E1 E2 hbelB.size ?_; intro g1 cap1 w2 hown2 hgrow hat hlt; rw [List.nil_append] at hown2; have hne1 : some w.heap.size ≠ some (W.heap.size) := (by (simp <;> omega)); have hne2 : some (w.heap.size + 1) ≠ some (W.heap.size) := (by (simp <;> omega)); have hB2 : Below W.heap.size W w2 := hbelB.grown hgrow hbelB.size (fun k hk => (by (injection hk with hk; omega))); have hzz2 := hB2.size; have hE2 : Bk w2 (W.heap.size + 1) 24 #[.slice none 0 0] := (Bk.drew (bk_last (by simp))).grown hgrow (by simp))
            | (refine step_rows i0 hi0 hz0 hz1 hz2 _ _ _ (by rfl) (by rfl) W.heap.size (W.heap.size + 1) 0 0 b1 o1 L.length c [] (meshCells L) (by rfl) (by rfl) hmadeA (meshCells_len L) (hR1 _ hbelA) (meshCells_one L) (by omega) L.length (by omega) E1 E2 hbelA.size ?_; intro g1 cap1 w2 hown2 hgrow hat hlt; rw [List.nil_append] at hown2; have hne1 : some w.heap.size ≠ some ((W.heap.size + 1)) := (by (simp <;> omega)); have hne2 : some (w.heap.size + 1) ≠ some ((W.heap.size + 1)) := (by (simp <;> omega)); have hB2 : Below W.heap.size W w2 := hbelA.grown hgrow hbelA.size (fun k hk => (by (injection hk with hk; omega))); have hzz2 := hB2.size; have hE2 : Bk w2 W.heap.size 24 #[.slice none 0 0] := (Bk.drew ((bk_last rfl).alloc _)).grown hgrow (by simp))
            | (refine step_rows i0 hi0 hz0 hz1 hz2 _ _ _ (by rfl) (by rfl) W.heap.size g1 L.length cap1 b2 o2 M.length d (meshCells L) (meshCells M) (by rfl) (by rfl) hown2 (meshCells_len M) (hR2 _ hB2) (meshCells_one M) (by omega) (L.length + M.length) rfl E3 E4 hB2.size ?_; intro g2 cap2 w3 hown3 hgrow3 hat3 hlt3; have hg1 := (hown2.lt g1 rfl); have hne3 : some w.heap.size ≠ some g1 := (by (simp <;> omega)); have hne4 : some (w.heap.size + 1) ≠ some g1 := (by (simp <;> omega)); have hB3 : Below W.heap.size W w3 := hB2.grown hgrow3 hB2.size (fun k hk => (by (injection hk with hk; omega))); have hzz3 := hB3.size; have el2 := hE2.lt; have hE3 := hE2.grown hgrow3 (by have h := hat; simp at h; simp; omega); have e0 := hE3.cell 0; have e1 := hE3.fz 0; have el := hE3.lt; simp at e0)
            | (refine step_rows i0 hi0 hz0 hz1 hz2 _ _ _ (by rfl) (by rfl) W.heap.size g1 L.length cap1 b2 o2 M.length d (meshCells L) (meshCells M) (by rfl) (by rfl) hown2 (meshCells_len M) (hR2 _ hB2) (meshCells_one M) (by omega) (L.length + M.length) rfl E3 E4 hB2.size ?_; intro g2 cap2 w3 hown3 hgrow3 hat3 hlt3; have hg1 := (hown2.lt g1 rfl); have hne3 : some w.heap.size ≠ some g1 := (by (simp <;> omega)); have hne4 : some (w.heap.size + 1) ≠ some g1 := (by (simp <;> omega)); have hB3 : Below W.heap.size W w3 := hB2.grown hgrow3 hB2.size (fun k hk => (by (injection hk with hk; omega))); have hzz3 := hB3.size)
            | (refine step_rows i0 hi0 hz0 hz1 hz2 _ _ _ (by rfl) (by rfl) W.heap.size g1 L.length cap1 b2 o2 M.length d (meshCells L) (meshCells M) (by rfl) (by rfl) (hown2.alloc _) (meshCells_len M) (hR2 _ (hB2.alloc hB2.size _)) (meshCells_one M) (by omega) (L.length + M.length) rfl E3 E4 (hB2.alloc hB2.size _).size ?_; intro g2 cap2 w3 hown3 hgrow3 hat3 hlt3; have hg1 := (hown2.lt g1 rfl); have hne3 : some w.heap.size ≠ some g1 := (by (simp <;> omega)); have hne4 : some (w.heap.size + 1) ≠ some g1 := (by (simp <;> omega)); have hB3 : Below W.heap.size W w3 := (hB2.alloc hB2.size _).grown hgrow3 (hB2.alloc hB2.size _).size (fun k hk => (by (injection hk with hk; omega))); have hzz3 := hB3.size; have hE3 : Bk w3 w2.heap.size 24 #[.slice none 0 0] := (bk_last rfl).grown hgrow3 (by simp; omega); have e0 := hE3.cell 0; have e1 := hE3.fz 0; have el := hE3.lt; simp at e0)))
        all_goals
          go_wp2_with fail
          go_meet
          case rel =>
            first
              | exact joined_mkD hB3 hown3
              | exact joined_mk hB3 hE3 rfl hown3 (by omega) (by have h := hat; have h3 := hat3; have := hown2.lt g1 rfl; simp at h h3; omega)
      case rest =>
        obtain ⟨o, gg, cap, rfl, O, hr, hbx⟩ := hcut
        obtain ⟨w20, hw20⟩ : ∃ w20, w20 = wc := ⟨_, rfl⟩
        subst hw20
        rw [meshCells_append] at hr
        replace R1 := R1.keep hbx
        replace R2 := R2.keep hbx
        have hB20 := hB8.trans (hbx.mono hB8.size)
        clear hbx hmadeA hmadeB hmadeC hbelA hbelB hbelC hR1 hR2 Xc0 Yc0
        have Oc0 := O.cell 0
        simp at Oc0
        have Ol := O.lt
        go_wp2_with fail
        refine (hjj.out _ gg cap hr).mono ?_
        rintro e' w21 ⟨rfl, hb21⟩
        replace O := O.keep hb21
        replace R1 := R1.keep hb21
        replace R2 := R2.keep hb21
        have hB21 := hB20.trans (hb21.mono hB20.size)
        clear Oc0 Ol
        clear hb21 hB20
        have R1c0 := R1.cell 0
        have R1c1 := R1.cell 1
        simp at R1c0 R1c1
        have R1l := R1.lt
        have R2c0 := R2.cell 0
        have R2c1 := R2.cell 1
        simp at R2c0 R2c1
        have R2l := R2.lt
        go_wp2_with fail
        refine (hpp.out _).mono ?_
        rintro e' w22 ⟨rfl, hb22⟩
        have R5 : Bk w22 w21.heap.size 42 #[.int .i64 xn, .int .i64 xd] := (bk_last rfl).keep hb22
        replace O := (O.alloc _).keep hb22
        replace R1 := (R1.alloc _).keep hb22
        replace R2 := (R2.alloc _).keep hb22
        have hB22 : Below w.heap.size w w22 := (hB21.alloc hB21.size _).trans (hb22.mono (by have := hB21.size; simp; omega))
        clear R1c0 R1c1 R1l R2c0 R2c1 R2l
        clear hb22 hB21
        have R5c0 := R5.cell 0
        have R5c1 := R5.cell 1
        simp at R5c0 R5c1
        have R5l := R5.lt
        go_wp2_with fail
        go_ret
        exact ⟨rfl, hB22.alloc hB22.size _⟩
    · have hs1 : decide ((16 : Int) < (L.length : Int) + (M.length : Int)) = true := by simp; omega
      subst hbe
      go_wp2_with fail
      go_ret
      exact ⟨rfl, hB7.alloc hB7.size _⟩
  · have hbe' : ((be : Int) == 0) = false := by simp; omega
    go_wp2_with fail
    go_ret
    exact ⟨rfl, hB7.alloc hB7.size _⟩

set_option maxRecDepth 100000 in
set_option maxHeartbeats 16000000 in
theorem join_stop (A B : Option Addr) (c d : Nat) (L M : List Mesh) (a b : Res) (v : Bool) (w : World) (hrow : RowAt w A (meshCells L)) (hrow2 : RowAt w B (meshCells M)) (hs1 : L.length ≤ 100) (hs2 : M.length ≤ 100) (ha : (a.err = 2 ∧ v = true) ∨ (a.err = 70 ∧ v = false))
    (h1 : Hid (RetR A L 25 #[.agg #[.slice A L.length c]] a.val)) (h2 : Hid (RetR B M 25 #[.agg #[.slice B M.length d]] b.val)) (h3 : Hid (RetR A L 33 #[.agg #[.slice A L.length c]] (.bool v))) :
    Calls Try.prog 9 #[.agg #[.slice A L.length c], .agg #[.slice B M.length d]] w fun e w' => e = .returned (.bool true) ∧ Below w.heap.size w w' := by
  obtain ⟨an, ad, ae⟩ := a
  obtain ⟨bn, bd, be⟩ := b
  simp only at ha
  go_enter Try.func9, Try.ntmps9
  go_wp2_with fail
  refine (awake_any _).mono ?_
  rintro e' w0 ⟨rfl, hb0⟩
  have X : Bk w0 w.heap.size 24 #[.slice A L.length c] := ((bk_last rfl).alloc _).keep hb0
  have Y : Bk w0 (w.heap.size + 1) 24 #[.slice B M.length d] := (bk_last (by simp)).keep hb0
  replace hrow := ((hrow.alloc _).alloc _).below hb0
  replace hrow2 := ((hrow2.alloc _).alloc _).below hb0
  have hB0 : Below w.heap.size w w0 := (((Below.refl w.heap.size w).alloc (Nat.le_refl _) _).alloc (by simp <;> omega) _).trans (hb0.mono (by simp <;> omega))
  clear hb0
  have Xc0 := X.cell 0
  simp at Xc0
  have Xl := X.lt
  go_wp2_with fail
  refine (short_true A L.length c _ hs1).mono ?_
  rintro e' w1 ⟨rfl, hb1⟩
  replace X := X.keep hb1
  replace Y := Y.keep hb1
  replace hrow := hrow.below hb1
  replace hrow2 := hrow2.below hb1
  have hB1 := hB0.trans (hb1.mono hB0.size)
  clear Xc0 Xl
  clear hb1 hB0
  have Yc0 := Y.cell 0
  simp at Yc0
  have Yl := Y.lt
  go_wp2_with fail
  refine (short_true B M.length d _ hs2).mono ?_
  rintro e' w2 ⟨rfl, hb2⟩
  replace X := X.keep hb2
  replace Y := Y.keep hb2
  replace hrow := hrow.below hb2
  replace hrow2 := hrow2.below hb2
  have hB2 := hB1.trans (hb2.mono hB1.size)
  clear Yc0 Yl
  clear hb2 hB1
  have Xc0 := X.cell 0
  simp at Xc0
  have Xl := X.lt
  go_wp2_with fail
  refine (h1.out _ hrow).mono ?_
  rintro e' w3 ⟨rfl, hb3⟩
  replace X := X.keep hb3
  replace Y := Y.keep hb3
  replace hrow := hrow.below hb3
  replace hrow2 := hrow2.below hb3
  have hB3 := hB2.trans (hb3.mono hB2.size)
  clear Xc0 Xl
  clear hb3 hB2
  have Yc0 := Y.cell 0
  simp at Yc0
  have Yl := Y.lt
  go_wp2_with fail
  refine (h2.out _ (hrow2.alloc _)).mono ?_
  rintro e' w4 ⟨rfl, hb4⟩
  have R1 : Bk w4 w3.heap.size 42 #[.int .i64 an, .int .i64 ad] := (bk_last rfl).keep hb4
  replace X := (X.alloc _).keep hb4
  replace Y := (Y.alloc _).keep hb4
  replace hrow := (hrow.alloc _).below hb4
  replace hrow2 := (hrow2.alloc _).below hb4
  have hB4 : Below w.heap.size w w4 := (hB3.alloc hB3.size _).trans (hb4.mono (by have := hB3.size; simp; omega))
  clear Yc0 Yl
  clear hb4 hB3
  rcases ha with ⟨ha, hv⟩ | ⟨ha, hv⟩
  · subst ha hv
    have Xc0 := X.cell 0
    simp at Xc0
    have Xl := X.lt
    go_wp2_with fail
    refine (h3.out _ (hrow.alloc _)).mono ?_
    rintro e' w5 ⟨rfl, hb5⟩
    have R2 : Bk w5 w4.heap.size 42 #[.int .i64 bn, .int .i64 bd] := (bk_last rfl).keep hb5
    replace X := (X.alloc _).keep hb5
    replace Y := (Y.alloc _).keep hb5
    replace R1 := (R1.alloc _).keep hb5
    replace hrow := (hrow.alloc _).below hb5
    replace hrow2 := (hrow2.alloc _).below hb5
    have hB5 : Below w.heap.size w w5 := (hB4.alloc hB4.size _).trans (hb5.mono (by have := hB4.size; simp; omega))
    clear Xc0 Xl
    clear hb5 hB4
    go_wp2_with fail
    go_ret
    exact ⟨rfl, hB5⟩
  · subst ha hv
    have Xc0 := X.cell 0
    simp at Xc0
    have Xl := X.lt
    go_wp2_with fail
    refine (h3.out _ (hrow.alloc _)).mono ?_
    rintro e' w5 ⟨rfl, hb5⟩
    have R2 : Bk w5 w4.heap.size 42 #[.int .i64 bn, .int .i64 bd] := (bk_last rfl).keep hb5
    replace X := (X.alloc _).keep hb5
    replace Y := (Y.alloc _).keep hb5
    replace R1 := (R1.alloc _).keep hb5
    replace hrow := (hrow.alloc _).below hb5
    replace hrow2 := (hrow2.alloc _).below hb5
    have hB5 : Below w.heap.size w w5 := (hB4.alloc hB4.size _).trans (hb5.mono (by have := hB4.size; simp; omega))
    clear Xc0 Xl
    clear hb5 hB4
    go_wp2_with fail
    go_ret
    exact ⟨rfl, hB5⟩

set_option maxHeartbeats 4000000 in
theorem join_long (A B : Option Addr) (c d : Nat) (L M : List Mesh) (w : World) (hrow : RowAt w A (meshCells L)) (hrow2 : RowAt w B (meshCells M)) (hs : ¬ (L.length ≤ 100 ∧ M.length ≤ 100)) :
    Calls Try.prog 9 #[.agg #[.slice A L.length c], .agg #[.slice B M.length d]] w fun e w' => e = .returned (.bool true) ∧ Below w.heap.size w w' := by
  by_cases hs1 : L.length ≤ 100
  · have hs2 : ¬ M.length ≤ 100 := fun h => hs ⟨hs1, h⟩
    go_enter Try.func9, Try.ntmps9
    go_wp2_with fail
    refine (awake_any _).mono ?_
    rintro e' w0 ⟨rfl, hb0⟩
    have X : Bk w0 w.heap.size 24 #[.slice A L.length c] := ((bk_last rfl).alloc _).keep hb0
    have Y : Bk w0 (w.heap.size + 1) 24 #[.slice B M.length d] := (bk_last (by simp)).keep hb0
    replace hrow := ((hrow.alloc _).alloc _).below hb0
    replace hrow2 := ((hrow2.alloc _).alloc _).below hb0
    have hB0 : Below w.heap.size w w0 := (((Below.refl w.heap.size w).alloc (Nat.le_refl _) _).alloc (by simp <;> omega) _).trans (hb0.mono (by simp <;> omega))
    clear hb0
    have Xc0 := X.cell 0
    simp at Xc0
    have Xl := X.lt
    go_wp2_with fail
    refine (short_true A L.length c _ hs1).mono ?_
    rintro e' w1 ⟨rfl, hb1⟩
    replace X := X.keep hb1
    replace Y := Y.keep hb1
    replace hrow := hrow.below hb1
    replace hrow2 := hrow2.below hb1
    have hB1 := hB0.trans (hb1.mono hB0.size)
    clear Xc0 Xl
    clear hb1 hB0
    have Yc0 := Y.cell 0
    simp at Yc0
    have Yl := Y.lt
    go_wp2_with fail
    refine (short_false B M.length d _ hs2).mono ?_
    rintro e' w2 ⟨rfl, hb2⟩
    replace X := X.keep hb2
    replace Y := Y.keep hb2
    replace hrow := hrow.below hb2
    replace hrow2 := hrow2.below hb2
    have hB2 := hB1.trans (hb2.mono hB1.size)
    clear Yc0 Yl
    clear hb2 hB1
    go_wp2_with fail
    go_ret
    exact ⟨rfl, hB2⟩
  · go_enter Try.func9, Try.ntmps9
    go_wp2_with fail
    refine (awake_any _).mono ?_
    rintro e' w0 ⟨rfl, hb0⟩
    have X : Bk w0 w.heap.size 24 #[.slice A L.length c] := ((bk_last rfl).alloc _).keep hb0
    have Y : Bk w0 (w.heap.size + 1) 24 #[.slice B M.length d] := (bk_last (by simp)).keep hb0
    replace hrow := ((hrow.alloc _).alloc _).below hb0
    replace hrow2 := ((hrow2.alloc _).alloc _).below hb0
    have hB0 : Below w.heap.size w w0 := (((Below.refl w.heap.size w).alloc (Nat.le_refl _) _).alloc (by simp <;> omega) _).trans (hb0.mono (by simp <;> omega))
    clear hb0
    have Xc0 := X.cell 0
    simp at Xc0
    have Xl := X.lt
    go_wp2_with fail
    refine (short_false A L.length c _ hs1).mono ?_
    rintro e' w1 ⟨rfl, hb1⟩
    replace X := X.keep hb1
    replace Y := Y.keep hb1
    replace hrow := hrow.below hb1
    replace hrow2 := hrow2.below hb1
    have hB1 := hB0.trans (hb1.mono hB0.size)
    clear Xc0 Xl
    clear hb1 hB0
    go_wp2_with fail
    go_ret
    exact ⟨rfl, hB1⟩

theorem join_law (A : Option Addr) (c : Nat) (L : List Mesh) (B : Option Addr) (d : Nat) (M : List Mesh) (w : World) (hrow : RowAt w A (meshCells L)) (_hc : L.length ≤ c) (_hcm : c ≤ 9223372036854775807) (hrow2 : RowAt w B (meshCells M)) (_hd : M.length ≤ d) (_hdm : d ≤ 9223372036854775807) :
    Calls Try.prog 9 #[.agg #[.slice A L.length c], .agg #[.slice B M.length d]] w fun e w' => e = .returned (.bool true) ∧ Below w.heap.size w w' := by
  by_cases hs : L.length ≤ 100 ∧ M.length ≤ 100
  · have h1 : RetR A L 25 #[.agg #[.slice A L.length c]] (ratioR L).val := fun W h => ratioOf_any A c L W h (by omega)
    have h2 : RetR B M 25 #[.agg #[.slice B M.length d]] (ratioR M).val := fun W h => ratioOf_any B d M W h (by omega)
    have h3 : RetR A L 33 #[.agg #[.slice A L.length c]] (.bool (okTrain L)) := fun W h => validTrain_any A c L W h (by omega)
    rcases ratio_err L with ⟨he, hok⟩ | he
    · obtain ⟨k1, k2, _⟩ := ok_train hok
      have hokM : (ratioR M).err = 0 → okTrain M = true := fun h => by
        rcases ratio_err M with ⟨_, h'⟩ | ⟨h', _⟩ | ⟨h', _⟩
        · exact h'
        · omega
        · omega
      refine join_core A B c d L M (ratioR L) (ratioR M) (ratioR (backL L)) (ratioR (L ++ M)) w hrow hrow2 k1 k2 hs.2 he (by rw [ratio_back hok he]) (fun h => (ok_train (hokM h)).1) h1 h2
        (fun W h => lawBack_any A c L W h (by omega)) (fun A' c' W h => ?_) (fun W => ?_) (fun hb hl W g cap h => ?_) (fun hb hl W => ?_)
      · have h := ratioOf_any A' c' (backL L) W h (by rw [backL_len]; omega)
        rwa [backL_len] at h
      · rw [← times_back hok he]
        exact times_any _ _ _ _ W
      · have h := ratioOf_any (some ⟨g, 0, none⟩) cap (L ++ M) W h (by rw [List.length_append]; omega)
        rwa [List.length_append] at h
      · rw [← ratio_join hok (hokM hb) hl he hb]
        exact times_any _ _ _ _ W
    · exact join_stop A B c d L M (ratioR L) (ratioR M) (okTrain L) w hrow hrow2 hs.1 hs.2 he h1 h2 h3
  · exact join_long A B c d L M w hrow hrow2 hs

end Go.Proofs.Ytheifigkclegdaa
