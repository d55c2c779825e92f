/-
  What is proved: the walk of GearsField.
-/
import Derived.Test.YtheifigkclegdaaLawO
import Derived.Test.YtheifigkclegdaaFracs
import Derived.Deep.DeepCutAuto
namespace Go.Proofs.Ytheifigkclegdaa
open Go.RowKit
attribute [local go_sem] Res.val

set_option maxRecDepth 100000 in
theorem neq42 (W : World) (a b c d : Int) : (binOp .neq 42 (.agg #[.int .i64 a, .int .i64 b]) (.agg #[.int .i64 c, .int .i64 d])).run Try.prog W = .ok (.bool (!(a == c && b == d))) W := by
  simp [go_sem, Try.underlying42]
  by_cases h1 : a = c <;> by_cases h2 : b = d <;> simp [*]

set_option maxRecDepth 100000 in
set_option maxHeartbeats 16000000 in
theorem field_core (a b c d e f : Int) (ab s bc x y u v z ac p r : Res) (w : World)
    (h1 : Hid (Ret 35 #[.agg #[.int .i64 a, .int .i64 b], .agg #[.int .i64 c, .int .i64 d]] ab.val))
    (h2 : Hid (Ret 35 #[.agg #[.int .i64 c, .int .i64 d], .agg #[.int .i64 a, .int .i64 b]] ab.val))
    (h3 : Hid (Ret 36 #[.agg #[.int .i64 a, .int .i64 b], .agg #[.int .i64 c, .int .i64 d]] s.val))
    (h4 : Hid (Ret 36 #[.agg #[.int .i64 c, .int .i64 d], .agg #[.int .i64 a, .int .i64 b]] s.val))
    (h5 : Hid (Ret 35 #[.agg #[.int .i64 c, .int .i64 d], .agg #[.int .i64 e, .int .i64 f]] bc.val))
    (h6 : Hid (Ret 35 #[.agg #[.int .i64 ab.num, .int .i64 ab.den], .agg #[.int .i64 e, .int .i64 f]] x.val))
    (h7 : Hid (Ret 35 #[.agg #[.int .i64 a, .int .i64 b], .agg #[.int .i64 bc.num, .int .i64 bc.den]] y.val))
    (h8 : Hid (Ret 36 #[.agg #[.int .i64 c, .int .i64 d], .agg #[.int .i64 e, .int .i64 f]] u.val))
    (h9 : Hid (Ret 36 #[.agg #[.int .i64 s.num, .int .i64 s.den], .agg #[.int .i64 e, .int .i64 f]] v.val))
    (h10 : Hid (Ret 36 #[.agg #[.int .i64 a, .int .i64 b], .agg #[.int .i64 u.num, .int .i64 u.den]] z.val))
    (h11 : Hid (Ret 35 #[.agg #[.int .i64 a, .int .i64 b], .agg #[.int .i64 e, .int .i64 f]] ac.val))
    (h12 : Hid (Ret 36 #[.agg #[.int .i64 ab.num, .int .i64 ab.den], .agg #[.int .i64 ac.num, .int .i64 ac.den]] p.val))
    (h13 : Hid (Ret 35 #[.agg #[.int .i64 a, .int .i64 b], .agg #[.int .i64 u.num, .int .i64 u.den]] r.val))
    (k1 : Hid (ab.err = 0 → bc.err = 0 → x.err = 0 → y = x)) (k2 : Hid (s.err = 0 → u.err = 0 → v.err = 0 → z = v)) (k3 : Hid (u.err = 0 → ab.err = 0 → ac.err = 0 → p.err = 0 → r = p)) :
    Calls Try.prog 8 #[.agg #[.int .i64 a, .int .i64 b], .agg #[.int .i64 c, .int .i64 d], .agg #[.int .i64 e, .int .i64 f]] w fun e w' => e = .returned (.bool true) ∧ Below w.heap.size w w' := by
  have E42 := eq42
  have N42 := neq42
  obtain ⟨abn, abd, abe⟩ := ab
  obtain ⟨sn, sd, se⟩ := s
  obtain ⟨bcn, bcd, bce⟩ := bc
  obtain ⟨xn, xd, xe⟩ := x
  obtain ⟨yn, yd, ye⟩ := y
  obtain ⟨un, ud, ue⟩ := u
  obtain ⟨vn, vd, ve⟩ := v
  obtain ⟨zn, zd, ze⟩ := z
  obtain ⟨acn, acd, ace⟩ := ac
  obtain ⟨pn, pd, pe⟩ := p
  obtain ⟨rn, rd, re⟩ := r
  simp only at k1 k2 k3
  go_enter Try.func8, Try.ntmps8
  go_wp2_with fail
  refine (awake_any _).mono ?_
  rintro e' w0 ⟨rfl, hb0⟩
  have A : Bk w0 w.heap.size 42 #[.int .i64 a, .int .i64 b] := (((bk_last rfl).alloc _).alloc _).keep hb0
  have B : Bk w0 (w.heap.size + 1) 42 #[.int .i64 c, .int .i64 d] := ((bk_last (by simp)).alloc _).keep hb0
  have C : Bk w0 (w.heap.size + 1 + 1) 42 #[.int .i64 e, .int .i64 f] := (bk_last (by simp)).keep hb0
  have hB0 : Below w.heap.size w w0 := ((((Below.refl _ _).alloc (Nat.le_refl _) _).alloc (by simp) _).alloc (by simp; omega) _).trans (hb0.mono (by simp; omega))
  clear hb0
  have A0 := A.cell 0
  have A1 := A.cell 1
  simp at A0 A1
  have Al := A.lt
  have B0 := B.cell 0
  have B1 := B.cell 1
  simp at B0 B1
  have Bl := B.lt
  go_wp2_with fail
  refine (h1.out _).mono ?_
  rintro e' w1 ⟨rfl, hb1⟩
  replace A := A.keep hb1
  replace B := B.keep hb1
  replace C := C.keep hb1
  have hB1 := hB0.trans (hb1.mono hB0.size)
  clear A0 A1 Al B0 B1 Bl
  clear hb1 hB0
  have B0 := B.cell 0
  have B1 := B.cell 1
  simp at B0 B1
  have Bl := B.lt
  have A0 := A.cell 0
  have A1 := A.cell 1
  simp at A0 A1
  have Al := A.lt
  go_wp2_with fail
  refine (h2.out _).mono ?_
  rintro e' w2 ⟨rfl, hb2⟩
  have R8 : Bk w2 w1.heap.size 42 #[.int .i64 abn, .int .i64 abd] := (bk_last rfl).keep hb2
  replace A := (A.alloc _).keep hb2
  replace B := (B.alloc _).keep hb2
  replace C := (C.alloc _).keep hb2
  have hB2 : Below w.heap.size w w2 := (hB1.alloc hB1.size _).trans (hb2.mono (by have := hB1.size; simp; omega))
  clear B0 B1 Bl A0 A1 Al
  clear hb2 hB1
  have A0 := A.cell 0
  have A1 := A.cell 1
  simp at A0 A1
  have Al := A.lt
  have B0 := B.cell 0
  have B1 := B.cell 1
  simp at B0 B1
  have Bl := B.lt
  go_wp2_with fail
  refine (h3.out _).mono ?_
  rintro e' w3 ⟨rfl, hb3⟩
  have R10 : Bk w3 w2.heap.size 42 #[.int .i64 abn, .int .i64 abd] := (bk_last rfl).keep hb3
  replace A := (A.alloc _).keep hb3
  replace B := (B.alloc _).keep hb3
  replace C := (C.alloc _).keep hb3
  replace R8 := (R8.alloc _).keep hb3
  have hB3 : Below w.heap.size w w3 := (hB2.alloc hB2.size _).trans (hb3.mono (by have := hB2.size; simp; omega))
  clear A0 A1 Al B0 B1 Bl
  clear hb3 hB2
  have B0 := B.cell 0
  have B1 := B.cell 1
  simp at B0 B1
  have Bl := B.lt
  have A0 := A.cell 0
  have A1 := A.cell 1
  simp at A0 A1
  have Al := A.lt
  go_wp2_with fail
  refine (h4.out _).mono ?_
  rintro e' w4 ⟨rfl, hb4⟩
  have R12 : Bk w4 w3.heap.size 42 #[.int .i64 sn, .int .i64 sd] := (bk_last rfl).keep hb4
  replace A := (A.alloc _).keep hb4
  replace B := (B.alloc _).keep hb4
  replace C := (C.alloc _).keep hb4
  replace R8 := (R8.alloc _).keep hb4
  replace R10 := (R10.alloc _).keep hb4
  have hB4 : Below w.heap.size w w4 := (hB3.alloc hB3.size _).trans (hb4.mono (by have := hB3.size; simp; omega))
  clear B0 B1 Bl A0 A1 Al
  clear hb4 hB3
  have B0 := B.cell 0
  have B1 := B.cell 1
  simp at B0 B1
  have Bl := B.lt
  have C0 := C.cell 0
  have C1 := C.cell 1
  simp at C0 C1
  have Cl := C.lt
  have R80 := R8.cell 0
  have R81 := R8.cell 1
  simp at R80 R81
  have R8l := R8.lt
  have R100 := R10.cell 0
  have R101 := R10.cell 1
  simp at R100 R101
  have R10l := R10.lt
  have R120 := R12.cell 0
  have R121 := R12.cell 1
  simp at R120 R121
  have R12l := R12.lt
  go_wp2_with fail
  refine (h5.out _).mono ?_
  rintro e' w5 ⟨rfl, hb5⟩
  have R14 : Bk w5 w4.heap.size 42 #[.int .i64 sn, .int .i64 sd] := (bk_last rfl).keep hb5
  replace A := (A.alloc _).keep hb5
  replace B := (B.alloc _).keep hb5
  replace C := (C.alloc _).keep hb5
  replace R8 := (R8.alloc _).keep hb5
  replace R10 := (R10.alloc _).keep hb5
  replace R12 := (R12.alloc _).keep hb5
  have hB5 : Below w.heap.size w w5 := (hB4.alloc hB4.size _).trans (hb5.mono (by have := hB4.size; simp; omega))
  clear B0 B1 Bl C0 C1 Cl R80 R81 R8l R100 R101 R10l R120 R121 R12l
  clear hb5 hB4
  have R80 := R8.cell 0
  have R81 := R8.cell 1
  simp at R80 R81
  have R8l := R8.lt
  have C0 := C.cell 0
  have C1 := C.cell 1
  simp at C0 C1
  have Cl := C.lt
  go_wp2_with fail
  refine (h6.out _).mono ?_
  rintro e' w6 ⟨rfl, hb6⟩
  have R16 : Bk w6 w5.heap.size 42 #[.int .i64 bcn, .int .i64 bcd] := (bk_last rfl).keep hb6
  replace A := (A.alloc _).keep hb6
  replace B := (B.alloc _).keep hb6
  replace C := (C.alloc _).keep hb6
  replace R8 := (R8.alloc _).keep hb6
  replace R10 := (R10.alloc _).keep hb6
  replace R12 := (R12.alloc _).keep hb6
  replace R14 := (R14.alloc _).keep hb6
  have hB6 : Below w.heap.size w w6 := (hB5.alloc hB5.size _).trans (hb6.mono (by have := hB5.size; simp; omega))
  clear R80 R81 R8l C0 C1 Cl
  clear hb6 hB5
  have A0 := A.cell 0
  have A1 := A.cell 1
  simp at A0 A1
  have Al := A.lt
  have R160 := R16.cell 0
  have R161 := R16.cell 1
  simp at R160 R161
  have R16l := R16.lt
  go_wp2_with fail
  refine (h7.out _).mono ?_
  rintro e' w7 ⟨rfl, hb7⟩
  have R18 : Bk w7 w6.heap.size 42 #[.int .i64 xn, .int .i64 xd] := (bk_last rfl).keep hb7
  replace A := (A.alloc _).keep hb7
  replace B := (B.alloc _).keep hb7
  replace C := (C.alloc _).keep hb7
  replace R8 := (R8.alloc _).keep hb7
  replace R10 := (R10.alloc _).keep hb7
  replace R12 := (R12.alloc _).keep hb7
  replace R14 := (R14.alloc _).keep hb7
  replace R16 := (R16.alloc _).keep hb7
  have hB7 : Below w.heap.size w w7 := (hB6.alloc hB6.size _).trans (hb7.mono (by have := hB6.size; simp; omega))
  clear A0 A1 Al R160 R161 R16l
  clear hb7 hB6
  have R180 := R18.cell 0
  have R181 := R18.cell 1
  simp at R180 R181
  have R18l := R18.lt
  go_upto_region 11 with fail
  have R20 : Bk (w7.alloc (Obj.cells #[Value.int IntKind.i64 yn, Value.int IntKind.i64 yd] 42)) w7.heap.size 42 #[.int .i64 yn, .int .i64 yd] := bk_last rfl
  replace A := A.alloc (Obj.cells #[Value.int IntKind.i64 yn, Value.int IntKind.i64 yd] 42)
  replace B := B.alloc (Obj.cells #[Value.int IntKind.i64 yn, Value.int IntKind.i64 yd] 42)
  replace C := C.alloc (Obj.cells #[Value.int IntKind.i64 yn, Value.int IntKind.i64 yd] 42)
  replace R8 := R8.alloc (Obj.cells #[Value.int IntKind.i64 yn, Value.int IntKind.i64 yd] 42)
  replace R10 := R10.alloc (Obj.cells #[Value.int IntKind.i64 yn, Value.int IntKind.i64 yd] 42)
  replace R12 := R12.alloc (Obj.cells #[Value.int IntKind.i64 yn, Value.int IntKind.i64 yd] 42)
  replace R14 := R14.alloc (Obj.cells #[Value.int IntKind.i64 yn, Value.int IntKind.i64 yd] 42)
  replace R16 := R16.alloc (Obj.cells #[Value.int IntKind.i64 yn, Value.int IntKind.i64 yd] 42)
  replace R18 := R18.alloc (Obj.cells #[Value.int IntKind.i64 yn, Value.int IntKind.i64 yd] 42)
  have hB8 := hB7.alloc hB7.size (Obj.cells #[Value.int IntKind.i64 yn, Value.int IntKind.i64 yd] 42)
  clear R180 R181 R18l
  clear hB7
  generalize hw8 : w7.alloc (Obj.cells #[Value.int IntKind.i64 yn, Value.int IntKind.i64 yd] 42) = w8 at *
  clear hw8
  go_cut [113] from 95 to 112 (fun c wx => c = .bool false ∧ wx = w8)
  case first =>
    have x0 := R18.cell 0
    have x1 := R18.cell 1
    have y0 := R20.cell 0
    have y1 := R20.cell 1
    simp at x0 x1 y0 y1
    by_cases q1 : abe = 0
    · by_cases q2 : bce = 0
      · by_cases q3 : xe = 0
        · have hk := k1.out q1 q2 q3
          injection hk with hk1 hk2 hk3
          subst q1 q2 q3 hk1 hk2 hk3
          go_wp2_with fail
          go_meet
          case rel => exact ⟨rfl, rfl⟩
        · subst q1 q2
          have q3' : ((xe : Int) == 0) = false := by simp; omega
          go_wp2_with fail
          go_meet
          case rel => exact ⟨rfl, rfl⟩
      · subst q1
        have q2' : ((bce : Int) == 0) = false := by simp; omega
        go_wp2_with fail
        go_meet
        case rel => exact ⟨rfl, rfl⟩
    · have q1' : ((abe : Int) == 0) = false := by simp; omega
      go_wp2_with fail
      go_meet
      case rel => exact ⟨rfl, rfl⟩
  case rest =>
  obtain ⟨rfl, rfl⟩ := hcut
  have B0 := B.cell 0
  have B1 := B.cell 1
  simp at B0 B1
  have Bl := B.lt
  have C0 := C.cell 0
  have C1 := C.cell 1
  simp at C0 C1
  have Cl := C.lt
  go_wp2_with fail
  refine (h8.out _).mono ?_
  rintro e' w9 ⟨rfl, hb9⟩
  replace A := A.keep hb9
  replace B := B.keep hb9
  replace C := C.keep hb9
  replace R8 := R8.keep hb9
  replace R10 := R10.keep hb9
  replace R12 := R12.keep hb9
  replace R14 := R14.keep hb9
  replace R16 := R16.keep hb9
  replace R18 := R18.keep hb9
  replace R20 := R20.keep hb9
  have hB9 := hB8.trans (hb9.mono hB8.size)
  clear B0 B1 Bl C0 C1 Cl
  clear hb9 hB8
  have R120 := R12.cell 0
  have R121 := R12.cell 1
  simp at R120 R121
  have R12l := R12.lt
  have C0 := C.cell 0
  have C1 := C.cell 1
  simp at C0 C1
  have Cl := C.lt
  go_wp2_with fail
  refine (h9.out _).mono ?_
  rintro e' w10 ⟨rfl, hb10⟩
  have R22 : Bk w10 w9.heap.size 42 #[.int .i64 un, .int .i64 ud] := (bk_last rfl).keep hb10
  replace A := (A.alloc _).keep hb10
  replace B := (B.alloc _).keep hb10
  replace C := (C.alloc _).keep hb10
  replace R8 := (R8.alloc _).keep hb10
  replace R10 := (R10.alloc _).keep hb10
  replace R12 := (R12.alloc _).keep hb10
  replace R14 := (R14.alloc _).keep hb10
  replace R16 := (R16.alloc _).keep hb10
  replace R18 := (R18.alloc _).keep hb10
  replace R20 := (R20.alloc _).keep hb10
  have hB10 : Below w.heap.size w w10 := (hB9.alloc hB9.size _).trans (hb10.mono (by have := hB9.size; simp; omega))
  clear R120 R121 R12l C0 C1 Cl
  clear hb10 hB9
  have A0 := A.cell 0
  have A1 := A.cell 1
  simp at A0 A1
  have Al := A.lt
  have R220 := R22.cell 0
  have R221 := R22.cell 1
  simp at R220 R221
  have R22l := R22.lt
  go_wp2_with fail
  refine (h10.out _).mono ?_
  rintro e' w11 ⟨rfl, hb11⟩
  have R24 : Bk w11 w10.heap.size 42 #[.int .i64 vn, .int .i64 vd] := (bk_last rfl).keep hb11
  replace A := (A.alloc _).keep hb11
  replace B := (B.alloc _).keep hb11
  replace C := (C.alloc _).keep hb11
  replace R8 := (R8.alloc _).keep hb11
  replace R10 := (R10.alloc _).keep hb11
  replace R12 := (R12.alloc _).keep hb11
  replace R14 := (R14.alloc _).keep hb11
  replace R16 := (R16.alloc _).keep hb11
  replace R18 := (R18.alloc _).keep hb11
  replace R20 := (R20.alloc _).keep hb11
  replace R22 := (R22.alloc _).keep hb11
  have hB11 : Below w.heap.size w w11 := (hB10.alloc hB10.size _).trans (hb11.mono (by have := hB10.size; simp; omega))
  clear A0 A1 Al R220 R221 R22l
  clear hb11 hB10
  have R240 := R24.cell 0
  have R241 := R24.cell 1
  simp at R240 R241
  have R24l := R24.lt
  go_upto_region 16 with fail
  have R26 : Bk (w11.alloc (Obj.cells #[Value.int IntKind.i64 zn, Value.int IntKind.i64 zd] 42)) w11.heap.size 42 #[.int .i64 zn, .int .i64 zd] := bk_last rfl
  replace A := A.alloc (Obj.cells #[Value.int IntKind.i64 zn, Value.int IntKind.i64 zd] 42)
  replace B := B.alloc (Obj.cells #[Value.int IntKind.i64 zn, Value.int IntKind.i64 zd] 42)
  replace C := C.alloc (Obj.cells #[Value.int IntKind.i64 zn, Value.int IntKind.i64 zd] 42)
  replace R8 := R8.alloc (Obj.cells #[Value.int IntKind.i64 zn, Value.int IntKind.i64 zd] 42)
  replace R10 := R10.alloc (Obj.cells #[Value.int IntKind.i64 zn, Value.int IntKind.i64 zd] 42)
  replace R12 := R12.alloc (Obj.cells #[Value.int IntKind.i64 zn, Value.int IntKind.i64 zd] 42)
  replace R14 := R14.alloc (Obj.cells #[Value.int IntKind.i64 zn, Value.int IntKind.i64 zd] 42)
  replace R16 := R16.alloc (Obj.cells #[Value.int IntKind.i64 zn, Value.int IntKind.i64 zd] 42)
  replace R18 := R18.alloc (Obj.cells #[Value.int IntKind.i64 zn, Value.int IntKind.i64 zd] 42)
  replace R20 := R20.alloc (Obj.cells #[Value.int IntKind.i64 zn, Value.int IntKind.i64 zd] 42)
  replace R22 := R22.alloc (Obj.cells #[Value.int IntKind.i64 zn, Value.int IntKind.i64 zd] 42)
  replace R24 := R24.alloc (Obj.cells #[Value.int IntKind.i64 zn, Value.int IntKind.i64 zd] 42)
  have hB12 := hB11.alloc hB11.size (Obj.cells #[Value.int IntKind.i64 zn, Value.int IntKind.i64 zd] 42)
  clear R240 R241 R24l
  clear hB11
  generalize hw12 : w11.alloc (Obj.cells #[Value.int IntKind.i64 zn, Value.int IntKind.i64 zd] 42) = w12 at *
  clear hw12
  go_cut [150] from 132 to 149 (fun c wx => c = .bool false ∧ wx = w12)
  case first =>
    have x0 := R24.cell 0
    have x1 := R24.cell 1
    have y0 := R26.cell 0
    have y1 := R26.cell 1
    simp at x0 x1 y0 y1
    by_cases q1 : se = 0
    · by_cases q2 : ue = 0
      · by_cases q3 : ve = 0
        · have hk := k2.out q1 q2 q3
          injection hk with hk1 hk2 hk3
          subst q1 q2 q3 hk1 hk2 hk3
          go_wp2_with fail
          go_meet
          case rel => exact ⟨rfl, rfl⟩
        · subst q1 q2
          have q3' : ((ve : Int) == 0) = false := by simp; omega
          go_wp2_with fail
          go_meet
          case rel => exact ⟨rfl, rfl⟩
      · subst q1
        have q2' : ((ue : Int) == 0) = false := by simp; omega
        go_wp2_with fail
        go_meet
        case rel => exact ⟨rfl, rfl⟩
    · have q1' : ((se : Int) == 0) = false := by simp; omega
      go_wp2_with fail
      go_meet
      case rel => exact ⟨rfl, rfl⟩
  case rest =>
  obtain ⟨rfl, rfl⟩ := hcut
  have A0 := A.cell 0
  have A1 := A.cell 1
  simp at A0 A1
  have Al := A.lt
  have C0 := C.cell 0
  have C1 := C.cell 1
  simp at C0 C1
  have Cl := C.lt
  go_wp2_with fail
  refine (h11.out _).mono ?_
  rintro e' w13 ⟨rfl, hb13⟩
  replace A := A.keep hb13
  replace B := B.keep hb13
  replace C := C.keep hb13
  replace R8 := R8.keep hb13
  replace R10 := R10.keep hb13
  replace R12 := R12.keep hb13
  replace R14 := R14.keep hb13
  replace R16 := R16.keep hb13
  replace R18 := R18.keep hb13
  replace R20 := R20.keep hb13
  replace R22 := R22.keep hb13
  replace R24 := R24.keep hb13
  replace R26 := R26.keep hb13
  have hB13 := hB12.trans (hb13.mono hB12.size)
  clear A0 A1 Al C0 C1 Cl
  clear hb13 hB12
  have R80 := R8.cell 0
  have R81 := R8.cell 1
  simp at R80 R81
  have R8l := R8.lt
  go_wp2_with fail
  refine (h12.out _).mono ?_
  rintro e' w14 ⟨rfl, hb14⟩
  have R28 : Bk w14 w13.heap.size 42 #[.int .i64 acn, .int .i64 acd] := (bk_last rfl).keep hb14
  replace A := (A.alloc _).keep hb14
  replace B := (B.alloc _).keep hb14
  replace C := (C.alloc _).keep hb14
  replace R8 := (R8.alloc _).keep hb14
  replace R10 := (R10.alloc _).keep hb14
  replace R12 := (R12.alloc _).keep hb14
  replace R14 := (R14.alloc _).keep hb14
  replace R16 := (R16.alloc _).keep hb14
  replace R18 := (R18.alloc _).keep hb14
  replace R20 := (R20.alloc _).keep hb14
  replace R22 := (R22.alloc _).keep hb14
  replace R24 := (R24.alloc _).keep hb14
  replace R26 := (R26.alloc _).keep hb14
  have hB14 : Below w.heap.size w w14 := (hB13.alloc hB13.size _).trans (hb14.mono (by have := hB13.size; simp; omega))
  clear R80 R81 R8l
  clear hb14 hB13
  have A0 := A.cell 0
  have A1 := A.cell 1
  simp at A0 A1
  have Al := A.lt
  have R220 := R22.cell 0
  have R221 := R22.cell 1
  simp at R220 R221
  have R22l := R22.lt
  go_wp2_with fail
  refine (h13.out _).mono ?_
  rintro e' w15 ⟨rfl, hb15⟩
  have R30 : Bk w15 w14.heap.size 42 #[.int .i64 pn, .int .i64 pd] := (bk_last rfl).keep hb15
  replace A := (A.alloc _).keep hb15
  replace B := (B.alloc _).keep hb15
  replace C := (C.alloc _).keep hb15
  replace R8 := (R8.alloc _).keep hb15
  replace R10 := (R10.alloc _).keep hb15
  replace R12 := (R12.alloc _).keep hb15
  replace R14 := (R14.alloc _).keep hb15
  replace R16 := (R16.alloc _).keep hb15
  replace R18 := (R18.alloc _).keep hb15
  replace R20 := (R20.alloc _).keep hb15
  replace R22 := (R22.alloc _).keep hb15
  replace R24 := (R24.alloc _).keep hb15
  replace R26 := (R26.alloc _).keep hb15
  replace R28 := (R28.alloc _).keep hb15
  have hB15 : Below w.heap.size w w15 := (hB14.alloc hB14.size _).trans (hb15.mono (by have := hB14.size; simp; omega))
  clear A0 A1 Al R220 R221 R22l
  clear hb15 hB14
  have R300 := R30.cell 0
  have R301 := R30.cell 1
  simp at R300 R301
  have R30l := R30.lt
  by_cases q1 : ue = 0
  · by_cases q2 : abe = 0
    · by_cases q3 : ace = 0
      · by_cases q4 : pe = 0
        · have hk := k3.out q1 q2 q3 q4
          injection hk with hk1 hk2 hk3
          subst q1 q2 q3 q4 hk1 hk2 hk3
          go_wp2_with fail
          go_ret
          exact ⟨rfl, hB15.alloc hB15.size _⟩
        · subst q1 q2 q3
          have q4' : ((pe : Int) == 0) = false := by simp; omega
          go_wp2_with fail
          go_ret
          exact ⟨rfl, hB15.alloc hB15.size _⟩
      · subst q1 q2
        have q3' : ((ace : Int) == 0) = false := by simp; omega
        go_wp2_with fail
        go_ret
        exact ⟨rfl, hB15.alloc hB15.size _⟩
    · subst q1
      have q2' : ((abe : Int) == 0) = false := by simp; omega
      go_wp2_with fail
      go_ret
      exact ⟨rfl, hB15.alloc hB15.size _⟩
  · have q1' : ((ue : Int) == 0) = false := by simp; omega
    go_wp2_with fail
    go_ret
    exact ⟨rfl, hB15.alloc hB15.size _⟩

theorem field_law (a b c d e f : Int) (w : World) :
    Calls Try.prog 8 #[.agg #[.int .i64 a, .int .i64 b], .agg #[.int .i64 c, .int .i64 d], .agg #[.int .i64 e, .int .i64 f]] w fun e w' => e = .returned (.bool true) ∧ Below w.heap.size w w' := by
  refine field_core a b c d e f (timesR a b c d) (plusR a b c d) (timesR c d e f) (timesR (timesR a b c d).num (timesR a b c d).den e f) (timesR a b (timesR c d e f).num (timesR c d e f).den) (plusR c d e f) (plusR (plusR a b c d).num (plusR a b c d).den e f) (plusR a b (plusR c d e f).num (plusR c d e f).den)
    (timesR a b e f) (plusR (timesR a b c d).num (timesR a b c d).den (timesR a b e f).num (timesR a b e f).den) (timesR a b (plusR c d e f).num (plusR c d e f).den) w
    (fun W => times_any _ _ _ _ W) ?_ (fun W => plus_any _ _ _ _ W) ?_ (fun W => times_any _ _ _ _ W) (fun W => times_any _ _ _ _ W) (fun W => times_any _ _ _ _ W) (fun W => plus_any _ _ _ _ W) (fun W => plus_any _ _ _ _ W) (fun W => plus_any _ _ _ _ W) (fun W => times_any _ _ _ _ W) (fun W => plus_any _ _ _ _ W) (fun W => times_any _ _ _ _ W) ?_ ?_ ?_
  · intro W
    rw [← times_comm a b c d]
    exact times_any _ _ _ _ W
  · intro W
    rw [← plus_comm a b c d]
    exact plus_any _ _ _ _ W
  · intro h1 h2 _
    exact times_assoc h1 h2
  · intro h1 h2 _
    exact plus_assoc h1 h2
  · intro h1 h2 h3 _
    exact times_dist h2 h3 h1

end Go.Proofs.Ytheifigkclegdaa
