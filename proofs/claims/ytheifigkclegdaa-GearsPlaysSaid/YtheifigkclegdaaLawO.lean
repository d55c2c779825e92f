/-
  What is proved: the walk of GearsRatios.
-/
import Derived.Test.YtheifigkclegdaaAwake
import Derived.Test.YtheifigkclegdaaRatio2
namespace Go.Proofs.Ytheifigkclegdaa
open Go.RowKit
attribute [local go_sem] Res.val

/-- A call that returns v and only makes memory. -/
def Ret (f : FuncId) (args : Array Value) (v : Value) : Prop := ∀ W : World, Calls Try.prog f args W fun e w' => e = .returned v ∧ Below W.heap.size W w'

set_option maxRecDepth 100000 in
set_option maxHeartbeats 16000000 in
theorem ratios_core (a b c d x y : Int) (r m p : Res) (k : Int × Int) (v : Bool) (w : World)
    (h1 : Hid (Ret 52 #[.int .i64 x, .int .i64 y] r.val)) (h2 : Hid (Ret 53 #[.int .i64 x, .int .i64 y] r.val))
    (h3 : Hid (Ret 35 #[.agg #[.int .i64 a, .int .i64 b], .agg #[.int .i64 c, .int .i64 d]] m.val)) (h4 : Hid (Ret 54 #[.agg #[.int .i64 a, .int .i64 b], .agg #[.int .i64 c, .int .i64 d]] m.val))
    (h5 : Hid (Ret 36 #[.agg #[.int .i64 a, .int .i64 b], .agg #[.int .i64 c, .int .i64 d]] p.val)) (h6 : Hid (Ret 55 #[.agg #[.int .i64 a, .int .i64 b], .agg #[.int .i64 c, .int .i64 d]] p.val))
    (h7 : Hid (Ret 51 #[.agg #[.int .i64 a, .int .i64 b], .agg #[.int .i64 c, .int .i64 d]] (pairV k))) (h8 : Hid (Ret 56 #[.agg #[.int .i64 a, .int .i64 b], .agg #[.int .i64 c, .int .i64 d]] (pairV k)))
    (h9 : Hid (Ret 57 #[.agg #[.int .i64 a, .int .i64 b]] (.bool v))) (h10 : Hid (Ret 58 #[.agg #[.int .i64 a, .int .i64 b]] (.bool v))) :
    Calls Try.prog 15 #[.agg #[.int .i64 a, .int .i64 b], .agg #[.int .i64 c, .int .i64 d], .int .i64 x, .int .i64 y] w fun e w' => e = .returned (.bool true) ∧ Below w.heap.size w w' := by
  have E42 := eq42
  obtain ⟨rn, rd, re⟩ := r
  obtain ⟨mn, md, me⟩ := m
  obtain ⟨pn, pd, pe⟩ := p
  obtain ⟨k1, k2⟩ := k
  go_enter Try.func15, Try.ntmps15
  go_wp2_with fail
  refine (h1.out _).mono ?_
  rintro e w1 ⟨rfl, hb1⟩
  have A : Bk w1 w.heap.size 42 #[.int .i64 a, .int .i64 b] := ((bk_last rfl).alloc _).keep hb1
  have C : Bk w1 (w.heap.size + 1) 42 #[.int .i64 c, .int .i64 d] := (bk_last (by simp)).keep hb1
  have hB1 : Below w.heap.size w w1 := (((Below.refl _ _).alloc (Nat.le_refl _) _).alloc (by simp) _).trans (hb1.mono (by simp; omega))
  clear hb1
  go_wp2_with fail
  refine (h2.out _).mono ?_
  rintro e w2 ⟨rfl, hb2⟩
  have R1 : Bk w2 w1.heap.size 42 #[.int .i64 rn, .int .i64 rd] := (bk_last rfl).keep hb2
  replace A := (A.alloc _).keep hb2
  replace C := (C.alloc _).keep hb2
  have hB2 : Below w.heap.size w w2 := (hB1.alloc hB1.size _).trans (hb2.mono (by have := hB1.size; simp; omega))
  clear hb2 hB1
  have a0 := A.cell 0
  have a1 := A.cell 1
  have c0 := C.cell 0
  have c1 := C.cell 1
  simp at a0 a1 c0 c1
  have al := A.lt
  have cl := C.lt
  go_wp2_with fail
  refine (h3.out _).mono ?_
  rintro e w3 ⟨rfl, hb3⟩
  have R2 : Bk w3 w2.heap.size 42 #[.int .i64 rn, .int .i64 rd] := (bk_last rfl).keep hb3
  replace R1 := (R1.alloc _).keep hb3
  replace A := (A.alloc _).keep hb3
  replace C := (C.alloc _).keep hb3
  have hB3 : Below w.heap.size w w3 := (hB2.alloc hB2.size _).trans (hb3.mono (by have := hB2.size; simp; omega))
  clear hb3 hB2 a0 a1 c0 c1 al cl
  have a0 := A.cell 0
  have a1 := A.cell 1
  have c0 := C.cell 0
  have c1 := C.cell 1
  simp at a0 a1 c0 c1
  have al := A.lt
  have cl := C.lt
  go_wp2_with fail
  refine (h4.out _).mono ?_
  rintro e w4 ⟨rfl, hb4⟩
  have M1 : Bk w4 w3.heap.size 42 #[.int .i64 mn, .int .i64 md] := (bk_last rfl).keep hb4
  replace R1 := (R1.alloc _).keep hb4
  replace R2 := (R2.alloc _).keep hb4
  replace A := (A.alloc _).keep hb4
  replace C := (C.alloc _).keep hb4
  have hB4 : Below w.heap.size w w4 := (hB3.alloc hB3.size _).trans (hb4.mono (by have := hB3.size; simp; omega))
  clear hb4 hB3 a0 a1 c0 c1 al cl
  have a0 := A.cell 0
  have a1 := A.cell 1
  have c0 := C.cell 0
  have c1 := C.cell 1
  simp at a0 a1 c0 c1
  have al := A.lt
  have cl := C.lt
  go_wp2_with fail
  refine (h5.out _).mono ?_
  rintro e w5 ⟨rfl, hb5⟩
  have M2 : Bk w5 w4.heap.size 42 #[.int .i64 mn, .int .i64 md] := (bk_last rfl).keep hb5
  replace R1 := (R1.alloc _).keep hb5
  replace R2 := (R2.alloc _).keep hb5
  replace M1 := (M1.alloc _).keep hb5
  replace A := (A.alloc _).keep hb5
  replace C := (C.alloc _).keep hb5
  have hB5 : Below w.heap.size w w5 := (hB4.alloc hB4.size _).trans (hb5.mono (by have := hB4.size; simp; omega))
  clear hb5 hB4 a0 a1 c0 c1 al cl
  have a0 := A.cell 0
  have a1 := A.cell 1
  have c0 := C.cell 0
  have c1 := C.cell 1
  simp at a0 a1 c0 c1
  have al := A.lt
  have cl := C.lt
  go_wp2_with fail
  refine (h6.out _).mono ?_
  rintro e w6 ⟨rfl, hb6⟩
  have P1 : Bk w6 w5.heap.size 42 #[.int .i64 pn, .int .i64 pd] := (bk_last rfl).keep hb6
  replace R1 := (R1.alloc _).keep hb6
  replace R2 := (R2.alloc _).keep hb6
  replace M1 := (M1.alloc _).keep hb6
  replace M2 := (M2.alloc _).keep hb6
  replace A := (A.alloc _).keep hb6
  replace C := (C.alloc _).keep hb6
  have hB6 : Below w.heap.size w w6 := (hB5.alloc hB5.size _).trans (hb6.mono (by have := hB5.size; simp; omega))
  clear hb6 hB5 a0 a1 c0 c1 al cl
  have a0 := A.cell 0
  have a1 := A.cell 1
  have c0 := C.cell 0
  have c1 := C.cell 1
  simp at a0 a1 c0 c1
  have al := A.lt
  have cl := C.lt
  go_wp2_with fail
  refine (h7.out _).mono ?_
  rintro e w7 ⟨rfl, hb7⟩
  have P2 : Bk w7 w6.heap.size 42 #[.int .i64 pn, .int .i64 pd] := (bk_last rfl).keep hb7
  replace R1 := (R1.alloc _).keep hb7
  replace R2 := (R2.alloc _).keep hb7
  replace M1 := (M1.alloc _).keep hb7
  replace M2 := (M2.alloc _).keep hb7
  replace P1 := (P1.alloc _).keep hb7
  replace A := (A.alloc _).keep hb7
  replace C := (C.alloc _).keep hb7
  have hB7 : Below w.heap.size w w7 := (hB6.alloc hB6.size _).trans (hb7.mono (by have := hB6.size; simp; omega))
  clear hb7 hB6 a0 a1 c0 c1 al cl
  have a0 := A.cell 0
  have a1 := A.cell 1
  have c0 := C.cell 0
  have c1 := C.cell 1
  simp at a0 a1 c0 c1
  have al := A.lt
  have cl := C.lt
  unfold pairV
  go_wp2_with fail
  refine (h8.out _).mono ?_
  rintro e w8 ⟨rfl, hb8⟩
  replace R1 := R1.keep hb8
  replace R2 := R2.keep hb8
  replace M1 := M1.keep hb8
  replace M2 := M2.keep hb8
  replace P1 := P1.keep hb8
  replace P2 := P2.keep hb8
  replace A := A.keep hb8
  have hB8 := hB7.trans (hb8.mono hB7.size)
  clear hb8 hB7 a0 a1 c0 c1 al cl C
  have a0 := A.cell 0
  have a1 := A.cell 1
  have r0 := R1.cell 0
  have r1 := R1.cell 1
  have r2 := R2.cell 0
  have r3 := R2.cell 1
  have m0 := M1.cell 0
  have m1 := M1.cell 1
  have m2 := M2.cell 0
  have m3 := M2.cell 1
  have p0 := P1.cell 0
  have p1 := P1.cell 1
  have p2 := P2.cell 0
  have p3 := P2.cell 1
  simp at a0 a1 r0 r1 r2 r3 m0 m1 m2 m3 p0 p1 p2 p3
  unfold pairV
  go_wp2_with fail
  refine wp_region_ext (by kernel_rfl) (by kernel_rfl) ?_
  have F1 := fun x : Ext w8 => keepc x.bel a0
  have F2 := fun x : Ext w8 => keepc x.bel a1
  have F3 := fun x : Ext w8 => keepc x.bel r0
  have F4 := fun x : Ext w8 => keepc x.bel r1
  have F5 := fun x : Ext w8 => keepc x.bel r2
  have F6 := fun x : Ext w8 => keepc x.bel r3
  have F7 := fun x : Ext w8 => keepc x.bel m0
  have F8 := fun x : Ext w8 => keepc x.bel m1
  have F9 := fun x : Ext w8 => keepc x.bel m2
  have F10 := fun x : Ext w8 => keepc x.bel m3
  have F11 := fun x : Ext w8 => keepc x.bel p0
  have F12 := fun x : Ext w8 => keepc x.bel p1
  have F13 := fun x : Ext w8 => keepc x.bel p2
  have F14 := fun x : Ext w8 => keepc x.bel p3
  clear a0 a1 r0 r1 r2 r3 m0 m1 m2 m3 p0 p1 p2 p3
  repeat (go_big_quiet_step ((first | (go_at_call 16; exact ext_of (awake_any _)) | (go_at_call 57; exact ext_of (h9.out _)) | (go_at_call 58; exact ext_of (h10.out _)))))
  refine wpQuiet_nil ?_
  rintro _ ⟨x, rfl⟩
  have hb3 := x.bel
  generalize x.w = w9 at hb3 ⊢
  clear F1 F2 F3 F4 F5 F6 F7 F8 F9 F10 F11 F12 F13 F14
  go_wp2
  go_ret
  exact ⟨rfl, hB8.trans (hb3.mono hB8.size)⟩

theorem ratios_law (a b c d x y : Int) (w : World) (hx : x ≤ 9223372036854775807) (hy : y ≤ 9223372036854775807) :
    Calls Try.prog 15 #[.agg #[.int .i64 a, .int .i64 b], .agg #[.int .i64 c, .int .i64 d], .int .i64 x, .int .i64 y] w fun e w' => e = .returned (.bool true) ∧ Below w.heap.size w w' :=
  ratios_core a b c d x y (reduceR x y) (timesR a b c d) (plusR a b c d) (compareR a b c d) (okRatio a b) w
    (fun W => reduce_any x y W hx hy) (fun W => rreduce_any x y W hx hy) (fun W => times_any a b c d W) (fun W => rtimes_any a b c d W) (fun W => plus_any a b c d W) (fun W => rplus_any a b c d W)
    (fun W => compare_any a b c d W) (fun W => rcompare_any a b c d W) (fun W => validRatio_any a b W) (fun W => rvalidRatio_any a b W)

end Go.Proofs.Ytheifigkclegdaa
