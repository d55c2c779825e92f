/-
  What is proved: the contracts of a frame's valid, cell and strokes.
  What is proved: the contracts of frameOf and FrameOf.
  What is proved: laws of a map whose keys are names (two integers), with all that it holds: look-up, store, range.
-/
import Derived.Test.YteihcodicfoiaaaGreatMw3
import Derived.Test.YteihcodicfoiaaaGreatMw12
import Derived.Test.YteihcodicfoiaaaGreatCheckBMw
import Derived.Test.YteihcodicfoiaaaGreatMw2
import Derived.Below
namespace Go.Proofs.YteihcodicfoiaaaGreat
open Go.RowKit

/-- A frame. -/
structure FrD where
  rings : Int
  sec : Int
  wide : Int
def FrD.val (f : FrD) : Value := .agg #[.int .i64 f.rings, .int .i64 f.sec, .int .i64 f.wide]
structure FrD.Ok (f : FrD) : Prop where
  r0 : 1 ≤ f.rings
  r1 : f.rings ≤ 24
  s0 : 2 ≤ f.sec
  s1 : f.sec ≤ 96
  w0 : 1 ≤ f.wide
  w1 : f.wide ≤ f.sec
theorem FrD.Ok.mul {f : FrD} (h : f.Ok) : 2 ≤ f.rings * f.sec ∧ f.rings * f.sec ≤ 2304 := by
  have h1 := h.r0; have h2 := h.r1; have h3 := h.s0; have h4 := h.s1
  have a : 1 * f.sec ≤ f.rings * f.sec := Int.mul_le_mul_of_nonneg_right h1 (by omega)
  have b : f.rings * f.sec ≤ 24 * 96 := Int.mul_le_mul h2 h4 (by omega) (by omega)
  omega

set_option maxRecDepth 100000 in
set_option maxHeartbeats 2000000 in
theorem fvalid_any (f : FrD) (hf : f.Ok) (w : World) : Calls Tryz.prog 127 #[f.val] w fun e w' => e = .returned (.bool true) ∧ Below w.heap.size w w' := by
  obtain ⟨r0, r1, s0, s1, w0, w1⟩ := hf
  have q1 : inB f.rings 1 24 = true := by simp [inB]; omega
  have q2 : inB f.sec 2 96 = true := by simp [inB]; omega
  have q3 : inB f.wide 1 f.sec = true := by simp [inB]; omega
  unfold FrD.val
  obtain ⟨W, hW⟩ : ∃ W, w.alloc (.cells #[.int .i64 f.rings, .int .i64 f.sec, .int .i64 f.wide] 112) = W := ⟨_, rfl⟩
  have hbW : Below w.heap.size w W := by rw [← hW]; exact (Below.refl _ _).alloc (Nat.le_refl _) _
  have X := (show Bk W w.heap.size 112 #[.int .i64 f.rings, .int .i64 f.sec, .int .i64 f.wide] by rw [← hW]; exact bk_last rfl)
  have x0 := X.cell 0
  have x1 := X.cell 1
  have x2 := X.cell 2
  simp at x0 x1 x2
  have HW := Lib.hid hW
  clear hW X r0 r1 s0 s1 w0 w1
  go_enter Tryz.func127, Tryz.ntmps127
  go_upto_region 1 with fail
  rw [HW.out]
  clear HW
  go_wp2_with (go_at_call 36; refine (hin_any _ _ _ _).mono ?_; rintro e w1 ⟨rfl, rfl⟩; first | rw [q1] | rw [q2] | rw [q3])
  go_ret
  exact ⟨rfl, hbW⟩

set_option maxRecDepth 100000 in
set_option maxHeartbeats 2000000 in
theorem fcell_any (f : FrD) (hf : f.Ok) (n : Int) (w : World) : Calls Tryz.prog 161 #[f.val, .int .i64 n] w fun e w' => e = .returned (.bool (inB n 0 (f.rings * f.sec - 1))) ∧ Below w.heap.size w w' := by
  have hm := hf.mul
  have hw1 := IntWalk.i64_in (f.rings * f.sec) (by omega)
  have hw2 := IntWalk.i64_in (f.rings * f.sec - 1) (by omega)
  unfold FrD.val
  obtain ⟨W, hW⟩ : ∃ W, w.alloc (.cells #[.int .i64 f.rings, .int .i64 f.sec, .int .i64 f.wide] 112) = W := ⟨_, rfl⟩
  have hbW : Below w.heap.size w W := by rw [← hW]; exact (Below.refl _ _).alloc (Nat.le_refl _) _
  have X := (show Bk W w.heap.size 112 #[.int .i64 f.rings, .int .i64 f.sec, .int .i64 f.wide] by rw [← hW]; exact bk_last rfl)
  have x0 := X.cell 0
  have x1 := X.cell 1
  simp at x0 x1
  have HW := Lib.hid hW
  clear hW X hf
  go_enter Tryz.func161, Tryz.ntmps161
  go_upto_region 1 with fail
  rw [HW.out]
  clear HW
  go_wp2_with (go_at_call 36; refine (hin_any _ _ _ _).mono ?_; rintro e w1 ⟨rfl, rfl⟩)
  go_ret
  exact ⟨rfl, hbW⟩

def sBad (f : FrD) (l : List Int) (k : Nat) : Bool := !inB (l.getD k 0) 0 (f.sec - f.wide) || (decide (0 < k) && decide (l.getD k 0 < l.getD (k - 1) 0))
def strokesB (f : FrD) (l : List Int) : Bool := (List.range l.length).all (fun k => !sBad f l k) && inB l.length 1 200

set_option maxRecDepth 100000 in
set_option maxHeartbeats 2000000 in
theorem fstrokes_any (f : FrD) (hf : f.Ok) (A : Option Addr) (c : Nat) (l : List Int) (w : World) (hL : RowAt w A (intCells l)) (hn : l.length ≤ 9223372036854775807) :
    Calls Tryz.prog 162 #[f.val, .slice A l.length c] w fun e w' => e = .returned (.bool (strokesB f l)) ∧ Below w.heap.size w w' := by
  have hs0 := hf.s0
  have hs1 := hf.s1
  have hw0 := hf.w0
  have hw1 := hf.w1
  have hww := IntWalk.i64_in (f.sec - f.wide) (by omega)
  unfold FrD.val
  obtain ⟨W, hW⟩ : ∃ W, w.alloc (.cells #[.int .i64 f.rings, .int .i64 f.sec, .int .i64 f.wide] 112) = W := ⟨_, rfl⟩
  have hbW : Below w.heap.size w W := by rw [← hW]; exact (Below.refl _ _).alloc (Nat.le_refl _) _
  have X := (show Bk W w.heap.size 112 #[.int .i64 f.rings, .int .i64 f.sec, .int .i64 f.wide] by rw [← hW]; exact bk_last rfl)
  have x1 := X.cell 1
  have x2 := X.cell 2
  simp at x1 x2
  have HW := Lib.hid hW
  have HL := Lib.hid (hL.below hbW)
  clear hW X hf hL
  go_enter Tryz.func162, Tryz.ntmps162
  go_upto_region 1 with fail
  rw [HW.out]
  clear HW
  go_wp2_with fail
  go_loopw [9] (fun i wr => W = wr ∧ ∃ k : Nat, k ≤ l.length ∧ i = .int .i64 k ∧ Hid (∀ j, j < k → sBad f l j = false)) (fun i _ => l.length - (intOf i).toNat)
  case atStart => exact ⟨rfl, 0, Nat.zero_le _, rfl, fun j h => absurd h (by omega)⟩
  case round =>
    obtain ⟨rfl, k, hk, rfl, hall⟩ := hrel
    by_cases hlt : k < l.length
    · have hkI : (k : Int) < l.length := by omega
      obtain ⟨b, off, hA, hb, hc⟩ := int_row HL.out (by omega)
      have c0 := hc k hlt
      have HG : Hid (sBad f l k = true → strokesB f l = false) := fun h => by unfold strokesB; rw [all_bad hlt h]; rfl
      have HN : Hid (sBad f l k = false → ∀ j, j < k + 1 → sBad f l j = false) := fun h => all_next hall.out h
      have HV : Hid (sBad f l k = (!inB (l.getD k 0) 0 (f.sec - f.wide) || (decide (0 < k) && decide (l.getD k 0 < l.getD (k - 1) 0)))) := rfl
      clear hall
      cases h1 : inB (l.getD k 0) 0 (f.sec - f.wide) with
      | false =>
        rw [hA]
        clear hA hc
        generalize l.getD k 0 = x at *
        have HQ := Lib.hid (HG.out (by rw [HV.out, h1]; simp))
        go_wp2_with (go_at_call 36; refine (hin_any _ _ _ _).mono ?_; rintro e w1 ⟨rfl, rfl⟩; rw [h1])
        go_ret
        exact ⟨ret_bool HQ.out.symm, hbW⟩
      | true =>
        by_cases hk0 : 0 < k
        · have hk0I : (k : Int) > 0 := by omega
          have c1 := hc (k - 1) (by omega)
          have e1 : (k : Int) - 1 = ((k - 1 : Nat) : Int) := by omega
          have hm1 : ((k - 1 : Nat) : Int) < l.length := by omega
          have ew := IntWalk.i64_in (((k - 1 : Nat) : Int)) (by omega)
          rw [hA]
          clear hA hc
          generalize l.getD k 0 = x at *
          generalize l.getD (k - 1) 0 = y at *
          generalize k - 1 = k1 at *
          by_cases hxy : x < y
          · have HQ := Lib.hid (HG.out (by rw [HV.out, h1]; simp; omega))
            go_wp2_with (go_at_call 36; refine (hin_any _ _ _ _).mono ?_; rintro e w1 ⟨rfl, rfl⟩; rw [h1])
            go_ret
            exact ⟨ret_bool HQ.out.symm, hbW⟩
          · have HQ := Lib.hid (HN.out (by rw [HV.out, h1]; simp; omega))
            go_wp2_with (go_at_call 36; refine (hin_any _ _ _ _).mono ?_; rintro e w1 ⟨rfl, rfl⟩; rw [h1])
            go_roundw
            case rel => exact ⟨trivial, k + 1, by omega, by go_num, HQ⟩
            case measure => simp [intOf]; omega
        · obtain rfl : k = 0 := by omega
          rw [hA]
          clear hA hc
          simp only [Nat.add_zero] at c0
          generalize l.getD 0 0 = x at *
          have HQ := Lib.hid (HN.out (by rw [HV.out, h1]; simp))
          go_wp2_with (go_at_call 36; refine (hin_any _ _ _ _).mono ?_; rintro e w1 ⟨rfl, rfl⟩; rw [h1])
          go_roundw
          case rel => exact ⟨trivial, 1, by omega, by go_num, HQ⟩
          case measure => simp [intOf]; omega
    · obtain rfl : k = l.length := by omega
      have HQ : Hid (strokesB f l = inB l.length 1 200) := by refine Lib.hid ?_; unfold strokesB; rw [all_good hall.out]; rfl
      clear hall
      go_wp2_with (go_at_call 36; refine (hin_any _ _ _ _).mono ?_; rintro e w1 ⟨rfl, rfl⟩)
      go_ret
      exact ⟨ret_bool HQ.out.symm, hbW⟩
end Go.Proofs.YteihcodicfoiaaaGreat
namespace Go.Proofs.YteihcodicfoiaaaGreat
open Go.RowKit

def BaseC.fr (b : BaseC) : FrD := ⟨b.bed.rings, b.bed.sec, b.wide⟩

set_option maxRecDepth 100000 in
set_option maxHeartbeats 2000000 in
theorem frameOf_any (b : BaseC) (z : BaseL) (w : World) :
    Calls Tryz.prog 34 #[.agg (b.arr z)] w fun e w' => e = .returned b.fr.val ∧ Below w.heap.size w w' := by
  obtain ⟨W, hW⟩ : ∃ W, (w.alloc (.cells (b.arr z) 41)).alloc (.cells #[.int .i64 0, .int .i64 0, .int .i64 0] 112) = W := ⟨_, rfl⟩
  have hbW : Below w.heap.size w W := by rw [← hW]; exact ((Below.refl _ _).alloc (Nat.le_refl _) _).alloc (by simp) _
  have X := (show Bk W w.heap.size 41 (b.arr z) by rw [← hW]; exact (bk_last rfl).alloc _)
  have Y := (show Bk W (w.heap.size + 1) 112 #[.int .i64 0, .int .i64 0, .int .i64 0] by rw [← hW]; exact bk_last (by simp))
  have x1 := X.cell 1
  have x2 := X.cell 2
  have x20 := X.cell 20
  simp [BaseC.arr] at x1 x2 x20
  have y0 := Y.cell 0
  have y1 := Y.cell 1
  have y2 := Y.cell 2
  have k0 := Y.fz 0
  have k1 := Y.fz 1
  have k2 := Y.fz 2
  have kl := Y.lt
  simp at y0 y1 y2
  have HW := Lib.hid hW
  have R : Bk (((W.setCell ⟨w.heap.size + 1, 0, none⟩ (.int .i64 b.bed.rings)).setCell ⟨w.heap.size + 1, 1, none⟩ (.int .i64 b.bed.sec)).setCell ⟨w.heap.size + 1, 2, none⟩ (.int .i64 b.wide)) (w.heap.size + 1) 112 _ := ((Y.put 0 (.int .i64 b.bed.rings)).put 1 (.int .i64 b.bed.sec)).put 2 (.int .i64 b.wide)
  have hB := ((hbW.setCell (p := ⟨w.heap.size + 1, 0, none⟩) (by simp) (.int .i64 b.bed.rings)).setCell (p := ⟨w.heap.size + 1, 1, none⟩) (by simp) (.int .i64 b.bed.sec)).setCell (p := ⟨w.heap.size + 1, 2, none⟩) (by simp) (.int .i64 b.wide)
  clear hW X Y
  go_enter Tryz.func34, Tryz.ntmps34
  go_upto_region 1 with fail
  rw [HW.out]
  clear HW
  go_wp2_with fail
  refine bodyPost_ret (v := b.fr.val) (results_cell_row rfl _ _ _ 112 _ (0, 0) _ rfl R Tryz.underlying112 rfl (by kernel_rfl)) rfl ?_
  exact ⟨rfl, hB⟩

def FrameP (b : BaseC) (w : World) (e : Ending) (w' : World) : Prop :=
  Below w.heap.size w w' ∧ ((checkOk b ∧ e = .returned (.tuple #[b.fr.val, .int .i64 0])) ∨ (¬ checkOk b ∧ e = .returned (.tuple #[(FrD.mk 0 0 0).val, .int .i64 100])))

attribute [local go_sem ↓] load_at41 load_run
set_option maxRecDepth 100000 in
set_option maxHeartbeats 4000000 in
theorem FrameOf_any (b : BaseC) (z : BaseL) (w : World) (hb : BaseAt w b z) (hf : b.Few) :
    Calls Tryz.prog 17 #[.agg (b.arr z)] w (FrameP b w) := by
  obtain ⟨W, hW⟩ : ∃ W, (w.alloc (.cells (b.arr z) 41)).alloc (.cells #[.int .i64 0, .int .i64 0, .int .i64 0] 45) = W := ⟨_, rfl⟩
  have hbW : Below w.heap.size w W := by rw [← hW]; exact ((Below.refl _ _).alloc (Nat.le_refl _) _).alloc (by simp) _
  have X := (show Bk W w.heap.size 41 (b.arr z) by rw [← hW]; exact (bk_last rfl).alloc _)
  have Y := (show Bk W (w.heap.size + 1) 45 #[.int .i64 0, .int .i64 0, .int .i64 0] by rw [← hW]; exact bk_last (by simp))
  have HC := Lib.hid (CheckBase_any b z W (hb.below hbW) hf)
  have l0 := load41_eq X rfl
  have HXY := Lib.hid (And.intro X Y)
  have HW := Lib.hid hW
  clear hW X Y hb hf
  go_enter Tryz.func17, Tryz.ntmps17
  go_upto_region 1 with fail
  rw [HW.out]
  clear HW
  go_wp2_with fail
  refine HC.out.mono ?_
  rintro e w1 ⟨hb1, ⟨hok, rfl⟩ | ⟨hno, rfl⟩⟩
  · have HOK := Lib.hid hok
    obtain ⟨X, Y⟩ := HXY.out
    have X1 := X.keep hb1
    have Y1 := Y.keep hb1
    have hB1 := hbW.trans (hb1.mono hbW.size)
    have l1 := load41_eq X1 rfl
    have HF := Lib.hid (frameOf_any b z w1)
    clear hok l0 X Y hb1 X1
    go_wp2_with fail
    refine HF.out.mono ?_
    rintro e w2 ⟨rfl, hb2⟩
    have Y2 := Y1.keep hb2
    have hB2 := hB1.trans (hb2.mono hB1.size)
    have hfld : ∀ W : World, (Instr.field 112 b.fr.val 0).run Tryz.prog W = .ok b.fr.val W := fun W => by
      unfold FrD.val
      kernel_rfl
    unfold FrD.val BaseC.fr at *
    have k0 := Y2.fz 0
    have k1 := Y2.fz 1
    have k2 := Y2.fz 2
    have y0 := Y2.cell 0
    have y1 := Y2.cell 1
    have y2 := Y2.cell 2
    have kl := Y2.lt
    simp at y0 y1 y2
    have R : Bk (((w2.setCell ⟨w.heap.size + 1, 0, none⟩ (.int .i64 b.bed.rings)).setCell ⟨w.heap.size + 1, 1, none⟩ (.int .i64 b.bed.sec)).setCell ⟨w.heap.size + 1, 2, none⟩ (.int .i64 b.wide)) (w.heap.size + 1) 45 _ := ((Y2.put 0 (.int .i64 b.bed.rings)).put 1 (.int .i64 b.bed.sec)).put 2 (.int .i64 b.wide)
    have hB := ((hB2.setCell (p := ⟨w.heap.size + 1, 0, none⟩) (by simp) (.int .i64 b.bed.rings)).setCell (p := ⟨w.heap.size + 1, 1, none⟩) (by simp) (.int .i64 b.bed.sec)).setCell (p := ⟨w.heap.size + 1, 2, none⟩) (by simp) (.int .i64 b.wide)
    have HRB := Lib.hid (And.intro R hB)
    clear hb2 Y1 Y2 hB1 hB2 l1 R hB
    go_wp2_with fail
    obtain ⟨R, hB⟩ := HRB.out
    generalize ((w2.setCell ⟨w.heap.size + 1, 0, none⟩ (.int .i64 b.bed.rings)).setCell ⟨w.heap.size + 1, 1, none⟩ (.int .i64 b.bed.sec)).setCell ⟨w.heap.size + 1, 2, none⟩ (.int .i64 b.wide) = F at *
    have r0 := R.cell 0
    have r1 := R.cell 1
    have r2 := R.cell 2
    simp at r0 r1 r2
    refine bodyPost_ret (v := .tuple #[.agg #[.int .i64 b.bed.rings, .int .i64 b.bed.sec, .int .i64 b.wide], .int .i64 0]) (by simp [results, Tryz.results17, go_sem, r0, r1, r2]) rfl ?_
    exact ⟨hB, .inl ⟨HOK.out, rfl⟩⟩
  · have HNO := Lib.hid hno
    obtain ⟨X, Y⟩ := HXY.out
    have Y2 := Y.keep hb1
    have hB2 := hbW.trans (hb1.mono hbW.size)
    have k0 := Y2.fz 0
    have k1 := Y2.fz 1
    have k2 := Y2.fz 2
    have y0 := Y2.cell 0
    have y1 := Y2.cell 1
    have y2 := Y2.cell 2
    have kl := Y2.lt
    simp at y0 y1 y2
    have R : Bk (((w1.setCell ⟨w.heap.size + 1, 0, none⟩ (.int .i64 0)).setCell ⟨w.heap.size + 1, 1, none⟩ (.int .i64 0)).setCell ⟨w.heap.size + 1, 2, none⟩ (.int .i64 0)) (w.heap.size + 1) 45 _ := ((Y2.put 0 (.int .i64 0)).put 1 (.int .i64 0)).put 2 (.int .i64 0)
    have hB := ((hB2.setCell (p := ⟨w.heap.size + 1, 0, none⟩) (by simp) (.int .i64 0)).setCell (p := ⟨w.heap.size + 1, 1, none⟩) (by simp) (.int .i64 0)).setCell (p := ⟨w.heap.size + 1, 2, none⟩) (by simp) (.int .i64 0)
    have HRB := Lib.hid (And.intro R hB)
    clear hno l0 X Y hb1 Y2 R hB hB2
    go_wp2_with fail
    obtain ⟨R, hB⟩ := HRB.out
    generalize ((w1.setCell ⟨w.heap.size + 1, 0, none⟩ (.int .i64 0)).setCell ⟨w.heap.size + 1, 1, none⟩ (.int .i64 0)).setCell ⟨w.heap.size + 1, 2, none⟩ (.int .i64 0) = F at *
    have r0 := R.cell 0
    have r1 := R.cell 1
    have r2 := R.cell 2
    simp at r0 r1 r2
    refine bodyPost_ret (v := .tuple #[.agg #[.int .i64 0, .int .i64 0, .int .i64 0], .int .i64 100]) (by simp [results, Tryz.results17, go_sem, r0, r1, r2]) rfl ?_
    exact ⟨hB, .inr ⟨HNO.out, rfl⟩⟩
end Go.Proofs.YteihcodicfoiaaaGreat
namespace Go.Proofs.YteihcodicfoiaaaGreat
open Go.ChangeMaps (setBlock)
open Go.RowKit
variable {P : Program}

abbrev NameF := List ((Int × Int) × Value)

/-- A map holds just this, in this order. -/
structure MapF (f : NameF) (es : Array MapEntry) (clock : Nat) : Prop where
  ent : es.toList.map (fun e => (e.key, e.val)) = f.map (fun x => (nameV x.1.1 x.1.2, x.2))
  born : ∀ e ∈ es.toList, e.born < clock
  nodup : (es.toList.map (·.born)).Nodup
  keys : (f.map Prod.fst).Nodup

theorem MapF.nil (clock : Nat) : MapF [] #[] clock := ⟨rfl, by simp, by simp, by simp⟩

def findIx (k : Int × Int) : NameF → Nat → Option (Nat × Value)
  | [], _ => none
  | x :: f, i => if x.1 = k then some (i, x.2) else findIx k f (i + 1)
def lookF (f : NameF) (k : Int × Int) : Option Value := (findIx k f 0).map (·.2)
def setF (f : NameF) (k : Int × Int) (v : Value) : NameF := match findIx k f 0 with
  | none => f ++ [(k, v)]
  | some (j, _) => f.set j (k, v)

theorem findIx_shift (k : Int × Int) : ∀ (f : NameF) (i : Nat), findIx k f (i + 1) = (findIx k f i).map fun x => (x.1 + 1, x.2)
  | [], _ => rfl
  | x :: f, i => by
    simp only [findIx]
    split
    · rfl
    · exact findIx_shift k f (i + 1)
theorem findIx_some (k : Int × Int) : ∀ (f : NameF) (i j : Nat) (v : Value), findIx k f i = some (j, v) → i ≤ j ∧ j - i < f.length ∧ f[j - i]? = some (k, v)
  | [], _, _, _, h => by cases h
  | x :: f, i, j, v, h => by
    simp only [findIx] at h
    split at h
    · rename_i hx
      injection h with h
      injection h with h1 h2
      subst h1; subst h2
      refine ⟨Nat.le_refl _, by simp, ?_⟩
      rw [Nat.sub_self, ← hx]
      rfl
    · obtain ⟨a, b, c⟩ := findIx_some k f (i + 1) j v h
      have e : j - i = (j - (i + 1)) + 1 := by omega
      refine ⟨by omega, by simp; omega, ?_⟩
      rw [e]
      simpa using c
theorem findIx_none (k : Int × Int) : ∀ (f : NameF) (i : Nat), findIx k f i = none ↔ k ∉ f.map Prod.fst
  | [], _ => by simp [findIx]
  | x :: f, i => by
    simp only [findIx]
    split
    · rename_i hx; simp [hx]
    · rename_i hx
      rw [findIx_none k f (i + 1)]
      simp only [List.map_cons, List.mem_cons, not_or]
      exact ⟨fun h => ⟨fun e => hx e.symm, h⟩, fun h => h.2⟩
theorem lookF_none (f : NameF) (k : Int × Int) : lookF f k = none ↔ k ∉ f.map Prod.fst := by
  unfold lookF
  rw [Option.map_eq_none_iff]
  exact findIx_none k f 0
theorem lookF_mem {f : NameF} {k : Int × Int} {v : Value} (h : lookF f k = some v) : (k, v) ∈ f := by
  unfold lookF at h
  rw [Option.map_eq_some_iff] at h
  obtain ⟨⟨j, u⟩, h1, rfl⟩ := h
  exact List.mem_of_getElem? (findIx_some k f 0 j u h1).2.2
theorem lookF_of_mem : ∀ {f : NameF}, (f.map Prod.fst).Nodup → ∀ {k : Int × Int} {v : Value}, (k, v) ∈ f → lookF f k = some v
  | [], _, k, v, h => by cases h
  | x :: f, hn, k, v, h => by
    simp only [List.map_cons, List.nodup_cons] at hn
    unfold lookF
    simp only [findIx]
    rcases List.mem_cons.1 h with h | h
    · rw [← h]; simp
    · rw [if_neg]
      · rw [findIx_shift]
        have ih := lookF_of_mem hn.2 h
        unfold lookF at ih
        rw [Option.map_map]
        simpa using ih
      · intro e
        exact hn.1 (e ▸ List.mem_map.2 ⟨_, h, rfl⟩)
theorem setF_keys {f : NameF} (hn : (f.map Prod.fst).Nodup) (k : Int × Int) (v : Value) : ((setF f k v).map Prod.fst).Nodup := by
  unfold setF
  split
  · rename_i h
    rw [findIx_none] at h
    rw [List.map_append, List.nodup_append]
    refine ⟨hn, by simp, fun a ha b hb => ?_⟩
    simp at hb
    subst hb
    intro e
    exact h (e ▸ ha)
  · rename_i j u h
    obtain ⟨_, h2, h3⟩ := findIx_some k f 0 j u h
    rw [Nat.sub_zero] at h2 h3
    have e : (f.set j (k, v)).map Prod.fst = f.map Prod.fst := by
      rw [List.map_set]
      refine List.ext_getElem? fun i => ?_
      rw [List.getElem?_set]
      split
      · rename_i hij
        subst hij
        have : f[j] = (k, u) := by
          rw [List.getElem?_eq_getElem h2] at h3
          injection h3
        simp [h2, this]
      · rfl
    rw [e]
    exact hn
theorem mem_setF {f : NameF} (hn : (f.map Prod.fst).Nodup) (k : Int × Int) (v : Value) (x : (Int × Int) × Value) : x ∈ setF f k v ↔ (x = (k, v) ∨ (x ∈ f ∧ x.1 ≠ k)) := by
  unfold setF
  split
  · rename_i h
    rw [findIx_none] at h
    rw [List.mem_append, List.mem_singleton]
    refine ⟨fun g => ?_, fun g => ?_⟩
    · rcases g with g | g
      · exact .inr ⟨g, fun e => h (e ▸ List.mem_map.2 ⟨_, g, rfl⟩)⟩
      · exact .inl g
    · rcases g with g | g
      · exact .inr g
      · exact .inl g.1
  · rename_i j u h
    obtain ⟨_, h2, h3⟩ := findIx_some k f 0 j u h
    rw [Nat.sub_zero] at h2 h3
    have hfj : f[j] = (k, u) := by
      rw [List.getElem?_eq_getElem h2] at h3
      injection h3
    rw [List.mem_iff_getElem?]
    refine ⟨fun ⟨i, hi⟩ => ?_, fun g => ?_⟩
    · rw [List.getElem?_set] at hi
      split at hi
      · rename_i hij
        injection hi with hi
        exact .inl hi.symm
      · rename_i hij
        refine .inr ⟨List.mem_of_getElem? hi, fun e => hij ?_⟩
        have hil := (List.getElem?_eq_some_iff.1 hi).1
        have hix := (List.getElem?_eq_some_iff.1 hi).2
        have h5 : (f.map Prod.fst)[j]'(by simpa using h2) = (f.map Prod.fst)[i]'(by simpa using hil) := by simp [hfj, hix, e]
        exact (List.getElem_inj hn).1 h5
    · rcases g with rfl | ⟨g, hne⟩
      · exact ⟨j, by simp [h2]⟩
      · obtain ⟨i, hi, hx⟩ := List.getElem_of_mem g
        refine ⟨i, ?_⟩
        rw [List.getElem?_set, if_neg, List.getElem?_eq_getElem hi, hx]
        intro e
        subst e
        rw [hfj] at hx
        exact hne (by rw [← hx])
theorem lookF_setF {f : NameF} (hn : (f.map Prod.fst).Nodup) (k : Int × Int) (v : Value) (k' : Int × Int) : lookF (setF f k v) k' = if k' = k then some v else lookF f k' := by
  split
  · rename_i h
    subst h
    exact lookF_of_mem (setF_keys hn _ v) ((mem_setF hn _ v _).2 (.inl rfl))
  · rename_i h
    cases hl : lookF f k' with
    | none =>
      rw [lookF_none] at hl ⊢
      intro hm
      obtain ⟨x, h1, h2⟩ := List.mem_map.1 hm
      rcases (mem_setF hn k v x).1 h1 with g | g
      · subst g; exact h h2.symm
      · exact hl (List.mem_map.2 ⟨x, g.1, h2⟩)
    | some u => exact lookF_of_mem (setF_keys hn _ v) ((mem_setF hn k v _).2 (.inr ⟨lookF_mem hl, h⟩))

theorem run_findAskingF {kt : TypeId} (hk : NameKey P kt) (a b : Int) (w : World) : ∀ (l : List MapEntry) (f : NameF) (i : Nat), l.map (fun e => (e.key, e.val)) = f.map (fun x => (nameV x.1.1 x.1.2, x.2)) → (Instr.findAsking kt (nameV a b) l i).run P w = .ok (findIx (a, b) f i) w
  | [], f, i, h => by
    cases f with
    | nil => simp [Instr.findAsking, Sem.run_pure, findIx]
    | cons x f => cases h
  | e :: l, f, i, h => by
    cases f with
    | nil => cases h
    | cons x f =>
      simp only [List.map_cons] at h
      injection h with h1 h2
      injection h1 with h1 h3
      obtain ⟨⟨c, d⟩, v⟩ := x
      simp only at h1 h3
      have ih := run_findAskingF hk a b w l f (i + 1) h2
      by_cases he : (a == c && b == d) = true
      · have h4 : a = c ∧ b = d := by simpa using he
        obtain ⟨rfl, rfl⟩ := h4
        simp only [Instr.findAsking, Sem.run_bind, h1, hk.eql, Result.andThen, findIx, h3, if_true]
        simp [Sem.run_pure]
      · have h2 : ¬ ((c, d) = (a, b)) := by
          intro g
          injection g with g1 g2
          subst g1; subst g2
          exact he (by simp)
        simp only [Instr.findAsking, Sem.run_bind, h1, hk.eql, Result.andThen, he, findIx, if_neg h2]
        simpa using ih

theorem run_findKeyF {kt : TypeId} (hk : NameKey P kt) (a b : Int) (w : World) (l : List MapEntry) (f : NameF) (hl : l.map (fun e => (e.key, e.val)) = f.map (fun x => (nameV x.1.1 x.1.2, x.2))) :
    (Instr.findKey kt (nameV a b) l).run P w = .ok (findIx (a, b) f 0) w := by
  obtain ⟨fs, hfs⟩ := hk.und
  have hr := run_findAskingF hk a b w l f 0 hl
  cases l with
  | nil =>
    cases f with
    | nil => simp [Instr.findKey, Sem.run_bind, run_underlying hfs, Result.andThen, Instr.findNow, Sem.run_pure, findIx]
    | cons x f => cases hl
  | cons e l =>
    have e1 : Instr.findNow (.struct fs) (nameV a b) (e :: l) 0 = none := by simp [Instr.findNow, Instr.sameNow]
    simp only [Instr.findKey, Sem.run_bind, run_underlying hfs, Result.andThen, e1]
    exact hr

/-- The look-up. -/
theorem run_lookupF {mt kt et : TypeId} {z : Value} (hk : NameKey P kt) (hm : P.underlying mt = some (.map kt et)) (hz : ∀ w, (zeroValue et).run P w = .ok z w) (a b : Int) (g : Nat) (es : Array MapEntry) (clock : Nat) (w : World) (f : NameF)
    (hg : w.heap[g]? = some (.map es clock)) (hi : MapF f es clock) (ok : Bool) :
    (Instr.lookup mt (.map (some g)) (nameV a b) ok).run P w = .ok (if ok then .tuple #[(lookF f (a, b)).getD z, .bool (lookF f (a, b)).isSome] else (lookF f (a, b)).getD z) w := by
  have hr := run_findKeyF hk a b w es.toList f hi.ent
  unfold lookF
  cases h : findIx (a, b) f 0 with
  | none =>
    rw [h] at hr
    simp only [Instr.lookup, Sem.run_bind, run_underlying hm, Result.andThen, getObj, Sem.run, hg, hk.chk]
    cases ok <;> (simp [Sem.run_pure, Result.andThen]; rw [hr]; simp [Sem.run_pure, Result.andThen, hz])
  | some x =>
    rw [h] at hr
    simp only [Instr.lookup, Sem.run_bind, run_underlying hm, Result.andThen, getObj, Sem.run, hg, hk.chk]
    cases ok <;> (simp [Sem.run_pure, Result.andThen]; rw [hr]; simp [Sem.run_pure, Result.andThen])

/-- The store. -/
theorem run_updateF {mt kt et : TypeId} (hk : NameKey P kt) (hm : P.underlying mt = some (.map kt et)) (a b : Int) (x : Value) (g : Nat) (es : Array MapEntry) (clock : Nat) (w : World) (f : NameF)
    (hg : w.heap[g]? = some (.map es clock)) (hi : MapF f es clock) :
    ∃ es' c', (Instr.mapUpdate mt (.map (some g)) (nameV a b) x).run P w = .ok () (setBlock w g (.map es' c')) ∧ MapF (setF f (a, b) x) es' c' := by
  have hr := run_findKeyF hk a b w es.toList f hi.ent
  have hset := setF_keys hi.keys (a, b) x
  unfold setF at hset ⊢
  cases h : findIx (a, b) f 0 with
  | none =>
    rw [h] at hr
    simp only [h] at hset
    refine ⟨es.push { key := nameV a b, val := x, born := clock }, clock + 1, ?_, ⟨?_, ?_, ?_, hset⟩⟩
    · simp only [Instr.mapUpdate, Sem.run_bind, run_underlying hm, Result.andThen, getObj, Sem.run, hg, hk.chk]
      rw [hr]
      simp [setObj, Sem.run, hg, setBlock]
    · simp [hi.ent]
    · intro e he
      simp at he
      rcases he with he | rfl
      · have := hi.born e (by simpa using he); omega
      · simp
    · simp only [Array.toList_push, List.map_append, List.map_cons, List.map_nil]
      rw [List.nodup_append]
      refine ⟨hi.nodup, by simp, fun u hu v hv => ?_⟩
      simp at hv
      subst hv
      obtain ⟨e, he, rfl⟩ := List.mem_map.1 hu
      have := hi.born e he
      omega
  | some y =>
    obtain ⟨j, u⟩ := y
    rw [h] at hr
    simp only [h] at hset
    obtain ⟨_, h2, h3⟩ := findIx_some _ f 0 j u h
    rw [Nat.sub_zero] at h2 h3
    have hlen : es.size = f.length := by have := congrArg List.length hi.ent; simpa using this
    have hj : j < es.size := by omega
    have hkey : es[j].key = nameV a b := by
      have h5 := congrArg (fun l => l[j]?) hi.ent
      simp only [List.getElem?_map, h3, Option.map_some, Array.getElem?_toList, Array.getElem?_eq_getElem hj] at h5
      injection h5 with h5
      injection h5
    refine ⟨es.modify j (fun e => { e with key := nameV a b, val := x }), clock, ?_, ⟨?_, ?_, ?_, hset⟩⟩
    · have hey : es[j]? = some es[j] := Array.getElem?_eq_getElem hj
      simp only [Instr.mapUpdate, Sem.run_bind, run_underlying hm, Result.andThen, getObj, Sem.run, hg, hk.chk]
      rw [hr]
      simp [Instr.keyThatStays, hey, hkey, sameBits_name, setObj, Sem.run, hg, setBlock, Sem.run_pure, Result.andThen]
    · refine List.ext_getElem (by simp [hlen]) fun i g1 g2 => ?_
      simp only [List.getElem_map, Array.getElem_toList, Array.getElem_modify, List.getElem_set]
      split
      · rfl
      · have h5 := congrArg (fun l => l[i]?) hi.ent
        have i1 : i < es.size := by simpa using g1
        have i2 : i < f.length := by omega
        simp only [List.getElem?_map, List.getElem?_eq_getElem i2, Option.map_some, Array.getElem?_toList, Array.getElem?_eq_getElem i1] at h5
        injection h5
    · intro e he
      obtain ⟨i, hil, rfl⟩ := List.getElem_of_mem he
      simp at hil
      simp only [Array.getElem_toList, Array.getElem_modify]
      split
      · exact hi.born (es[i]'hil) (by simp)
      · exact hi.born (es[i]'hil) (by simp)
    · have e : (es.modify j (fun e => { e with key := nameV a b, val := x })).toList.map (·.born) = es.toList.map (·.born) := by
        refine List.ext_getElem (by simp) fun i h1 h2 => ?_
        simp only [List.getElem_map, Array.getElem_toList, Array.getElem_modify]
        split <;> rfl
      rw [e]
      exact hi.nodup

/-- An entry as a pair. -/
def unName : Value → Int × Int
  | .agg #[.int _ a, .int _ b] => (a, b)
  | _ => (0, 0)
theorem unName_nameV (a b : Int) : unName (nameV a b) = (a, b) := rfl
def entF (e : MapEntry) : (Int × Int) × Value := (unName e.key, e.val)
theorem MapF.entF {f : NameF} {es : Array MapEntry} {clock : Nat} (h : MapF f es clock) : es.toList.map entF = f := by
  have h1 := congrArg (List.map fun x : Value × Value => (unName x.1, x.2)) h.ent
  rw [List.map_map, List.map_map] at h1
  have e2 : (fun x : Value × Value => (unName x.1, x.2)) ∘ (fun x : (Int × Int) × Value => (nameV x.1.1 x.1.2, x.2)) = id := by funext x; rfl
  rw [e2, List.map_id] at h1
  exact h1
theorem MapF.key {f : NameF} {es : Array MapEntry} {clock : Nat} (h : MapF f es clock) {e : MapEntry} (he : e ∈ es.toList) : e.key = nameV (Proofs.YteihcodicfoiaaaGreat.entF e).1.1 (Proofs.YteihcodicfoiaaaGreat.entF e).1.2 := by
  have h1 : (e.key, e.val) ∈ es.toList.map (fun e => (e.key, e.val)) := List.mem_map.2 ⟨e, he, rfl⟩
  rw [h.ent] at h1
  obtain ⟨x, _, hx⟩ := List.mem_map.1 h1
  injection hx with hx _
  unfold Proofs.YteihcodicfoiaaaGreat.entF
  rw [← hx]
  rfl

/-- A range over a map is under way: D is what it has handed out. -/
def RangeF (w : World) (r bm : Nat) (f D : NameF) : Prop :=
  ∃ es clock since seen c0, w.heap[r]? = some (.mapIter (some bm) since seen c0) ∧ w.heap[bm]? = some (.map es clock) ∧ MapF f es clock ∧ (∀ x ∈ es.toList, x.born < since) ∧ since ≤ c0 ∧ since ≤ clock ∧ ∃ ds : List MapEntry, ds.map entF = D ∧ (ds ++ (leftOf es seen).toList).Perm es.toList

theorem RangeF.keep {w w' : World} {r bm : Nat} {f D : NameF} (h : RangeF w r bm f D) (h1 : w'.heap[r]? = w.heap[r]?) (h2 : w'.heap[bm]? = w.heap[bm]?) : RangeF w' r bm f D := by
  obtain ⟨es, clock, since, seen, c0, a, b, c⟩ := h
  exact ⟨es, clock, since, seen, c0, h1.trans a, h2.trans b, c⟩

theorem RangeF.start {w : World} {bm : Nat} {f : NameF} {es : Array MapEntry} {clock : Nat} (hb : w.heap[bm]? = some (.map es clock)) (hi : MapF f es clock) : RangeF (w.alloc (.mapIter (some bm) clock #[] clock)) w.heap.size bm f [] := by
  have hlt : bm < w.heap.size := (Array.getElem?_eq_some_iff.1 hb).1
  refine ⟨es, clock, clock, #[], clock, heap_alloc_new w _, (Below.heap_alloc w _ bm hlt).trans hb, hi, hi.born, Nat.le_refl _, Nat.le_refl _, [], rfl, ?_⟩
  have : (leftOf es #[]) = es := by
    unfold leftOf
    exact Array.filter_eq_self.2 (fun x _ => by simp)
  rw [this]
  exact List.Perm.refl _

theorem perm_strike : ∀ (l : List MapEntry), (l.map (·.born)).Nodup → ∀ e ∈ l, l.Perm (e :: l.filter (fun x => !(x.born == e.born)))
  | [], _, e, he => by cases he
  | x :: l, hn, e, he => by
    simp only [List.map_cons, List.nodup_cons] at hn
    rcases List.mem_cons.1 he with rfl | he
    · have : l.filter (fun x => !(x.born == e.born)) = l := List.filter_eq_self.2 (fun y hy => by
        simp only [Bool.not_eq_true', beq_eq_false_iff_ne]
        intro h
        exact hn.1 (h ▸ List.mem_map.2 ⟨y, hy, rfl⟩))
      rw [List.filter_cons]
      simp only [beq_self_eq_true, Bool.not_true, Bool.false_eq_true, if_false, this]
      exact List.Perm.refl _
    · have hne : (!(x.born == e.born)) = true := by
        simp only [Bool.not_eq_true', beq_eq_false_iff_ne]
        intro h
        exact hn.1 (h ▸ List.mem_map.2 ⟨e, he, rfl⟩)
      rw [List.filter_cons, if_pos hne]
      exact ((perm_strike l hn.2 e he).cons x).trans (List.Perm.swap _ _ _)

/-- What stands behind a step. -/
structure Stepped (w w' : World) (r : Nat) : Prop where
  size : w'.heap.size = w.heap.size
  far : ∀ b, b ≠ r → w'.heap[b]? = w.heap[b]?
  os : w'.os = w.os
  output : w'.output = w.output

theorem RangeF.next {w : World} {r bm : Nat} {f D : NameF} (h : RangeF w r bm f D) (hne : bm ≠ r) (ty : TypeId) :
    (D.Perm f ∧ (Instr.next (.pointer (some ⟨r, 0, none⟩)) false ty).run P w = .ok (.tuple #[.bool false]) w) ∨
    ∃ (k : Int × Int) (v : Value) (w1 w' : World), (k, v) ∈ f ∧ D.length < f.length ∧ (w1 = w ∨ w1 = w.drew) ∧ (∃ o, w' = setBlock w1 r o) ∧ (Instr.next (.pointer (some ⟨r, 0, none⟩)) false ty).run P w = .ok (.tuple #[.bool true, nameV k.1 k.2, v]) w' ∧ RangeF w' r bm f (D ++ [(k, v)]) ∧
      (Instr.entry (.pointer (some ⟨r, 0, none⟩))).run P w' = .ok (.tuple #[nameV k.1 k.2, v]) w' := by
  obtain ⟨es, clock, since, seen, c0, hr, hb, hi, hold, hsc, hsk, ds, rfl, hp⟩ := h
  have hlen := hp.length_eq
  have hfl : f.length = es.toList.length := by rw [← hi.entF]; simp
  rcases run_next_at (P := P) w ty r bm since c0 seen es clock hr hb hold hsc with ⟨h0, hrun⟩ | ⟨e, he, w1, hw1, hrun⟩
  · refine .inl ⟨?_, hrun⟩
    have : (leftOf es seen).toList = [] := List.eq_nil_of_length_eq_zero (by simpa using h0)
    rw [this, List.append_nil] at hp
    have h2 := hp.map entF
    rwa [hi.entF] at h2
  · have hee : e ∈ es.toList := by
      unfold leftOf at he
      simp at he ⊢
      exact he.1
    have hr1 : w1.heap[r]? = some (.mapIter (some bm) since seen c0) := by rcases hw1 with rfl | rfl <;> exact hr
    have hb1 : w1.heap[bm]? = some (.map es clock) := by rcases hw1 with rfl | rfl <;> exact hb
    have hrr : (setBlock w1 r (.mapIter (some bm) since (seen.push e.born) clock)).heap[r]? = some (.mapIter (some bm) since (seen.push e.born) clock) := by
      have : r < w1.heap.size := (Array.getElem?_eq_some_iff.1 hr1).1
      simp [setBlock, this]
    have hbb : (setBlock w1 r (.mapIter (some bm) since (seen.push e.born) clock)).heap[bm]? = some (.map es clock) := by
      rw [← hb1]
      simp [setBlock, Array.getElem?_setIfInBounds, Ne.symm hne]
    have hkey := hi.key hee
    have hval : e.val = (entF e).2 := rfl
    have hborn := hi.born e hee
    refine .inr ⟨(entF e).1, (entF e).2, w1, _, ?_, ?_, hw1, ⟨_, rfl⟩, by rw [hrun, ← hval, ← hkey], ⟨es, clock, since, seen.push e.born, clock, hrr, hbb, hi, hold, hsk, hsk, ds ++ [e], by simp, ?_⟩, ?_⟩
    · rw [← hi.entF]
      exact List.mem_map.2 ⟨e, hee, rfl⟩
    · have : 0 < (leftOf es seen).toList.length := List.length_pos_of_mem he
      rw [List.length_append] at hlen
      rw [hfl, List.length_map]
      omega
    · have hln : ((leftOf es seen).toList.map (·.born)).Nodup := by
        refine hi.nodup.sublist (List.Sublist.map _ ?_)
        unfold leftOf
        rw [Array.toList_filter]
        exact List.filter_sublist
      have h1 := perm_strike _ hln e he
      have e1 : (leftOf es (seen.push e.born)).toList = (leftOf es seen).toList.filter (fun x => !(x.born == e.born)) := by
        unfold leftOf
        rw [Array.toList_filter, Array.toList_filter, List.filter_filter]
        congr 1
        funext x
        simp only [Array.contains_push, Bool.not_or]
        rw [Bool.and_comm]
      rw [e1]
      refine List.Perm.trans ?_ hp
      rw [List.append_assoc]
      exact h1.symm.append_left ds
    · have := run_entry_at (P := P) (setBlock w1 r (.mapIter (some bm) since (seen.push e.born) clock)) r bm since seen es clock e hrr hbb hee hi.nodup
      rw [this, ← hval, ← hkey]
end Go.Proofs.YteihcodicfoiaaaGreat
