/-
  What is proved: the contract of formed.
-/
import Derived.Test.YteihcodicfoiaaaGreatSaidMw
import Derived.Test.YteihcodicfoiaaaGreatSameMw
namespace Go.Proofs.YteihcodicfoiaaaGreat
open Go.RowKit

def rest1 (n : NoteD) : NoteD := if n.kind = 2 then { saidN 2 n with rh := 0, rn := 0 } else if n.kind = 5 then { saidN n.fix (saidN 5 n) with fix := 0 } else saidN n.kind n
def ok1 (f : FrD) (n : NoteD) : Bool := if n.kind = 2 then saidB f 2 n && (inB n.rh 1 8 && inB n.rn 1 400) else if n.kind = 5 then saidB f 5 n && (saidB f n.fix (saidN 5 n) && inB n.fix 1 4) else saidB f n.kind n
def rest2 (n : NoteD) : NoteD := { rest1 n with house := 0, num := 0, clock := 0, day := 0, kind := 0 }
/-- A note is well-formed. -/
def formedB (f : FrD) (n : NoteD) : Bool := ok1 f n && ((inB n.house 1 8 && inB n.num 1 400) && (inB n.clock 1 1099511627776 && (inB n.day 0 99999 && sameB (rest2 n) note0)))
theorem saidN_str (k : Int) (n : NoteD) : ((saidN k n).strokes = n.strokes ∧ (saidN k n).sA = n.sA ∧ (saidN k n).sc = n.sc) ∨ ((saidN k n).strokes = []) := by
  unfold saidN
  split
  · exact .inl ⟨rfl, rfl, rfl⟩
  · split
    · exact .inl ⟨rfl, rfl, rfl⟩
    · split
      · exact .inl ⟨rfl, rfl, rfl⟩
      · split
        · exact .inr rfl
        · split
          · exact .inl ⟨rfl, rfl, rfl⟩
          · exact .inl ⟨rfl, rfl, rfl⟩
theorem at_nil {n : NoteD} {w : World} (h : n.strokes = []) : n.At w := by unfold NoteD.At; rw [h]; intro h0; simp [intCells] at h0
theorem saidN_at {k : Int} {n : NoteD} {w : World} (h : n.At w) : (saidN k n).At w := by
  rcases saidN_str k n with ⟨h1, h2, _⟩ | h1
  · unfold NoteD.At; rw [h1, h2]; exact h
  · exact at_nil h1
theorem saidN_len {k : Int} {n : NoteD} {M : Nat} (h : n.strokes.length ≤ M) : (saidN k n).strokes.length ≤ M := by
  rcases saidN_str k n with ⟨h1, _⟩ | h1
  · rw [h1]; exact h
  · rw [h1]; exact Nat.zero_le _
theorem rest1_at {n : NoteD} {w : World} (h : n.At w) : (rest1 n).At w := by
  unfold rest1
  split
  · exact saidN_at (k := 2) h
  · split
    · exact saidN_at (k := n.fix) (saidN_at (k := 5) h)
    · exact saidN_at h
theorem rest1_len {n : NoteD} {M : Nat} (h : n.strokes.length ≤ M) : (rest1 n).strokes.length ≤ M := by
  unfold rest1
  split
  · exact saidN_len (k := 2) h
  · split
    · exact saidN_len (k := n.fix) (saidN_len (k := 5) h)
    · exact saidN_len h

/-- What stands in the walk of formed. -/
structure FmAt (f : FrD) (n m : NoteD) (q : Nat) (w U : World) : Prop where
  fr : Bk U w.heap.size 112 #[.int .i64 f.rings, .int .i64 f.sec, .int .i64 f.wide]
  nt : Bk U (w.heap.size + 1) 68 n.arr
  re : Bk U q 68 m.arr
  be : Below w.heap.size w U
theorem FmAt.keep {f : FrD} {n m : NoteD} {q : Nat} {w U U' : World} (h : FmAt f n m q w U) (hb : Below U.heap.size U U') : FmAt f n m q w U' := ⟨h.fr.keep hb, h.nt.keep hb, h.re.keep hb, h.be.trans (hb.mono h.be.size)⟩
theorem FmAt.put {f : FrD} {n m m' : NoteD} {q : Nat} {w U : World} (h : FmAt f n m q w U) (hq : w.heap.size + 2 ≤ q) (c : Nat) (v : Value) (e : m.arr.setIfInBounds c v = m'.arr) : FmAt f n m' q w (U.setCell ⟨q, c, none⟩ v) :=
  ⟨h.fr.far (by simp; omega) _, h.nt.far (by simp; omega) _, by rw [← e]; exact h.re.put c v, h.be.setCell (by simp; omega) _⟩

attribute [local go_sem ↓] load_at68 load_run store_at68 store_run
set_option maxRecDepth 100000 in
set_option maxHeartbeats 8000000 in
theorem formed_any (f : FrD) (n : NoteD) (w : World) (hf : f.Ok) (hs : n.At w) (hn : n.strokes.length ≤ 9223372036854775807) :
    Calls Tryz.prog 72 #[f.val, .agg n.arr] w fun e w' => e = .returned (.bool (formedB f n)) ∧ Below w.heap.size w w' := by
  have HSD := Lib.hid (fun (X : World) (h : Below w.heap.size w X) => said_any f n.kind n X hf (hs.below h) hn)
  have HSD2 := Lib.hid (fun (X : World) (h : Below w.heap.size w X) (k : Int) => said_any f k (saidN 5 n) X hf (saidN_at (hs.below h)) (saidN_len hn))
  have HSM := Lib.hid (fun (X : World) (h : Below w.heap.size w X) => same_any (rest2 n) note0 X (show (rest1 n).At X from rest1_at (hs.below h)) (at_nil rfl) (show (rest1 n).strokes.length ≤ _ from rest1_len hn))
  unfold FrD.val at *
  obtain ⟨W, hW⟩ : ∃ W, (w.alloc (.cells #[.int .i64 f.rings, .int .i64 f.sec, .int .i64 f.wide] 112)).alloc (.cells n.arr 68) = W := ⟨_, rfl⟩
  have hbW : Below w.heap.size w W := by rw [← hW]; exact ((Below.refl _ _).alloc (Nat.le_refl _) _).alloc (by simp) _
  have X := (show Bk W w.heap.size 112 #[.int .i64 f.rings, .int .i64 f.sec, .int .i64 f.wide] by rw [← hW]; exact (bk_last rfl).alloc _)
  have Y := (show Bk W (w.heap.size + 1) 68 n.arr by rw [← hW]; exact bk_last (by simp))
  have hsz : W.heap.size = w.heap.size + 2 := by rw [← hW]; simp
  have x0 := X.cell 0
  have x1 := X.cell 1
  have x2 := X.cell 2
  have y4 := Y.cell 4
  simp [NoteD.arr] at x0 x1 x2 y4
  have l1 := load68_eq n Y
  have HXY := Lib.hid (And.intro X Y)
  have HSZ : Hid (∀ w1 : World, Below W.heap.size W w1 → w.heap.size + 2 ≤ w1.heap.size) := fun w1 h => by have := h.size; omega
  have HW := Lib.hid hW
  clear hW X Y hs hn hf hsz
  go_enter Tryz.func72, Tryz.ntmps72
  go_upto_region 1 with fail
  rw [HW.out]
  clear HW
  go_wp2_with fail
  refine (HSD.out _ hbW).mono ?_
  rintro e w1 ⟨rfl, hb1⟩
  have hq := HSZ.out _ hb1
  obtain ⟨q, hqq⟩ : ∃ q, w1.heap.size = q := ⟨_, rfl⟩
  rw [hqq] at hq
  have s1 := storeN_eq (ty := 68) (cs := (saidN n.kind n).arr) (bk_last (w := w1) (t := 68) (cs := #[.int .i64 0, .int .i64 0, .int .i64 0, .int .i64 0, .int .i64 0, .int .i64 0, .int .i64 0, .int .i64 0, .int .i64 0, .int .i64 0, .int .i64 0, .int .i64 0, .int .i64 0, .int .i64 0, .int .i64 0, .slice none 0 0, .int .i64 0, .int .i64 0, .int .i64 0]) hqq) (by kernel_rfl) rfl (arr_one _)
  have hU : FmAt f n (saidN n.kind n) q w ((w1.alloc (.cells #[.int .i64 0, .int .i64 0, .int .i64 0, .int .i64 0, .int .i64 0, .int .i64 0, .int .i64 0, .int .i64 0, .int .i64 0, .int .i64 0, .int .i64 0, .int .i64 0, .int .i64 0, .int .i64 0, .int .i64 0, .slice none 0 0, .int .i64 0, .int .i64 0, .int .i64 0] 68)).setRow q (saidN n.kind n).arr) := by
    have hb1w := hbW.trans (hb1.mono hbW.size)
    have h2 := hqq
    exact ⟨((HXY.out.1.keep hb1).alloc _).farRow (by omega) _, ((HXY.out.2.keep hb1).alloc _).farRow (by omega) _, setRow_at (bk_last hqq) _, below_setRow (hb1w.alloc hb1w.size _) (by omega) _⟩
  have HU := Lib.hid hU
  clear hU l1 hb1 HSD HSZ
  go_upto_region 2 with fail
  clear s1 x0 x1 x2 y4 hqq HXY hbW
  generalize (w1.alloc _).setRow q _ = U at *
  have H1 := HU.out
  clear HU
  have y4 := H1.nt.cell 4
  simp [NoteD.arr] at y4
  have he0 : note0.arr = #[.int .i64 0, .int .i64 0, .int .i64 0, .int .i64 0, .int .i64 0, .int .i64 0, .int .i64 0, .int .i64 0, .int .i64 0, .int .i64 0, .int .i64 0, .int .i64 0, .int .i64 0, .int .i64 0, .int .i64 0, .slice none 0 0, .int .i64 0, .int .i64 0, .int .i64 0] := rfl
  rw [he0] at HSM
  by_cases k2 : n.kind = 2
  · rw [k2] at H1 y4 ⊢
    have HR : Hid (rest1 n = { saidN 2 n with rh := 0, rn := 0 }) := by unfold rest1; rw [if_pos k2]; exact Lib.hid rfl
    have HO : Hid (ok1 f n = (saidB f 2 n && (inB n.rh 1 8 && inB n.rn 1 400))) := by unfold ok1; rw [if_pos k2]; exact Lib.hid rfl
    have hlt := H1.re.lt
    have z16 := H1.re.fz 16
    have z17 := H1.re.fz 17
    have u16 := H1.re.cell 16
    have u17 := H1.re.cell 17
    simp [NoteD.arr] at u16 u17
    have H2 : FmAt f n { saidN 2 n with rh := 0 } q w (U.setCell ⟨q, 16, none⟩ (.int .i64 0)) := H1.put hq 16 (.int .i64 0) rfl
    have H3 : FmAt f n { saidN 2 n with rh := 0, rn := 0 } q w ((U.setCell ⟨q, 16, none⟩ (.int .i64 0)).setCell ⟨q, 17, none⟩ (.int .i64 0)) := H2.put hq 17 (.int .i64 0) rfl
    rw [← HR.out] at H3
    have HH := Lib.hid H3
    clear H1 H2 H3 k2 HR
    go_upto_region 5 with fail
    clear hlt z16 z17 u16 u17 y4
    generalize (U.setCell ⟨q, 16, none⟩ (.int .i64 0)).setCell ⟨q, 17, none⟩ (.int .i64 0) = U at *
    have H1 := HH.out
    clear HH
    have y16 := H1.nt.cell 16
    have y17 := H1.nt.cell 17
    simp [NoteD.arr] at y16 y17
    cases q0 : saidB f 2 n with
    | false =>
      have HF : Hid (ok1 f n = false) := by rw [HO.out, q0]; exact Lib.hid rfl
      clear HO q0
      go_upto_region 11 with fail
      clear y16 y17
      have hlt := H1.re.lt
      have z0 := H1.re.fz 0
      have u0 := H1.re.cell 0
      have z1 := H1.re.fz 1
      have u1 := H1.re.cell 1
      have z2 := H1.re.fz 2
      have u2 := H1.re.cell 2
      have z3 := H1.re.fz 3
      have u3 := H1.re.cell 3
      have z4 := H1.re.fz 4
      have u4 := H1.re.cell 4
      simp [NoteD.arr] at u0 u1 u2 u3 u4
      have H2 : FmAt f n ({ rest1 n with house := 0 }) q w (U.setCell ⟨q, 0, none⟩ (.int .i64 0)) := H1.put hq 0 (.int .i64 0) rfl
      have H3 : FmAt f n ({ rest1 n with house := 0, num := 0 }) q w ((U.setCell ⟨q, 0, none⟩ (.int .i64 0)).setCell ⟨q, 1, none⟩ (.int .i64 0)) := H2.put hq 1 (.int .i64 0) rfl
      have H4 : FmAt f n ({ rest1 n with house := 0, num := 0, clock := 0 }) q w (((U.setCell ⟨q, 0, none⟩ (.int .i64 0)).setCell ⟨q, 1, none⟩ (.int .i64 0)).setCell ⟨q, 2, none⟩ (.int .i64 0)) := H3.put hq 2 (.int .i64 0) rfl
      have H5 : FmAt f n ({ rest1 n with house := 0, num := 0, clock := 0, day := 0 }) q w ((((U.setCell ⟨q, 0, none⟩ (.int .i64 0)).setCell ⟨q, 1, none⟩ (.int .i64 0)).setCell ⟨q, 2, none⟩ (.int .i64 0)).setCell ⟨q, 3, none⟩ (.int .i64 0)) := H4.put hq 3 (.int .i64 0) rfl
      have H6 : FmAt f n (rest2 n) q w (((((U.setCell ⟨q, 0, none⟩ (.int .i64 0)).setCell ⟨q, 1, none⟩ (.int .i64 0)).setCell ⟨q, 2, none⟩ (.int .i64 0)).setCell ⟨q, 3, none⟩ (.int .i64 0)).setCell ⟨q, 4, none⟩ (.int .i64 0)) := H5.put hq 4 (.int .i64 0) rfl
      have HH := Lib.hid H6
      clear H1 H2 H3 H4 H5 H6
      go_upto_region 12 with fail
      clear hlt z0 z1 z2 z3 z4 u0 u1 u2 u3 u4
      generalize (((((U.setCell ⟨q, 0, none⟩ (.int .i64 0)).setCell ⟨q, 1, none⟩ (.int .i64 0)).setCell ⟨q, 2, none⟩ (.int .i64 0)).setCell ⟨q, 3, none⟩ (.int .i64 0)).setCell ⟨q, 4, none⟩ (.int .i64 0)) = V at *
      have H := HH.out
      clear HH
      have l3 := load68_eq n H.nt
      have y2 := H.nt.cell 2
      have y3 := H.nt.cell 3
      simp [NoteD.arr] at y2 y3
      have HH := Lib.hid H
      have HVV : Hid (formedB f n = (ok1 f n && ((inB n.house 1 8 && inB n.num 1 400) && (inB n.clock 1 1099511627776 && (inB n.day 0 99999 && sameB (rest2 n) note0))))) := Lib.hid rfl
      have hl1 := H.nt.lt
      have hl2 := H.re.lt
      clear H
      have HQ : Hid (formedB f n = false) := by rw [HVV.out, HF.out]; exact Lib.hid rfl
      go_wp2_with fail
      go_ret
      exact ⟨ret_bool HQ.out.symm, HH.out.be⟩
    | true =>
      have HF : Hid ((inB n.rh 1 8 && inB n.rn 1 400) = ok1 f n) := by rw [HO.out, q0]; exact Lib.hid rfl
      have HRN := Lib.hid (rightName_any n.rh n.rn U)
      rw [HF.out] at HRN
      have HK := Lib.hid H1
      clear HO q0 HF H1
      go_wp2_with fail
      refine HRN.out.mono ?_
      rintro e U2 ⟨rfl, hb2⟩
      have H1 := HK.out.keep hb2
      clear HK hb2 HRN y16 y17
      go_upto_region 11 with fail
      have hlt := H1.re.lt
      have z0 := H1.re.fz 0
      have u0 := H1.re.cell 0
      have z1 := H1.re.fz 1
      have u1 := H1.re.cell 1
      have z2 := H1.re.fz 2
      have u2 := H1.re.cell 2
      have z3 := H1.re.fz 3
      have u3 := H1.re.cell 3
      have z4 := H1.re.fz 4
      have u4 := H1.re.cell 4
      simp [NoteD.arr] at u0 u1 u2 u3 u4
      have H2 : FmAt f n ({ rest1 n with house := 0 }) q w (U2.setCell ⟨q, 0, none⟩ (.int .i64 0)) := H1.put hq 0 (.int .i64 0) rfl
      have H3 : FmAt f n ({ rest1 n with house := 0, num := 0 }) q w ((U2.setCell ⟨q, 0, none⟩ (.int .i64 0)).setCell ⟨q, 1, none⟩ (.int .i64 0)) := H2.put hq 1 (.int .i64 0) rfl
      have H4 : FmAt f n ({ rest1 n with house := 0, num := 0, clock := 0 }) q w (((U2.setCell ⟨q, 0, none⟩ (.int .i64 0)).setCell ⟨q, 1, none⟩ (.int .i64 0)).setCell ⟨q, 2, none⟩ (.int .i64 0)) := H3.put hq 2 (.int .i64 0) rfl
      have H5 : FmAt f n ({ rest1 n with house := 0, num := 0, clock := 0, day := 0 }) q w ((((U2.setCell ⟨q, 0, none⟩ (.int .i64 0)).setCell ⟨q, 1, none⟩ (.int .i64 0)).setCell ⟨q, 2, none⟩ (.int .i64 0)).setCell ⟨q, 3, none⟩ (.int .i64 0)) := H4.put hq 3 (.int .i64 0) rfl
      have H6 : FmAt f n (rest2 n) q w (((((U2.setCell ⟨q, 0, none⟩ (.int .i64 0)).setCell ⟨q, 1, none⟩ (.int .i64 0)).setCell ⟨q, 2, none⟩ (.int .i64 0)).setCell ⟨q, 3, none⟩ (.int .i64 0)).setCell ⟨q, 4, none⟩ (.int .i64 0)) := H5.put hq 4 (.int .i64 0) rfl
      have HH := Lib.hid H6
      clear H1 H2 H3 H4 H5 H6
      go_upto_region 12 with fail
      clear hlt z0 z1 z2 z3 z4 u0 u1 u2 u3 u4
      generalize (((((U2.setCell ⟨q, 0, none⟩ (.int .i64 0)).setCell ⟨q, 1, none⟩ (.int .i64 0)).setCell ⟨q, 2, none⟩ (.int .i64 0)).setCell ⟨q, 3, none⟩ (.int .i64 0)).setCell ⟨q, 4, none⟩ (.int .i64 0)) = V at *
      have H := HH.out
      clear HH
      have l3 := load68_eq n H.nt
      have y2 := H.nt.cell 2
      have y3 := H.nt.cell 3
      simp [NoteD.arr] at y2 y3
      have HH := Lib.hid H
      have HVV : Hid (formedB f n = (ok1 f n && ((inB n.house 1 8 && inB n.num 1 400) && (inB n.clock 1 1099511627776 && (inB n.day 0 99999 && sameB (rest2 n) note0))))) := Lib.hid rfl
      have hl1 := H.nt.lt
      have hl2 := H.re.lt
      clear H
      cases q1 : ok1 f n with
      | false =>
        have HQ : Hid (formedB f n = false) := by rw [HVV.out, q1]; exact Lib.hid rfl
        go_wp2_with fail
        go_ret
        exact ⟨ret_bool HQ.out.symm, HH.out.be⟩
      | true =>
        have HNM := Lib.hid (nameOf_any n V)
        go_wp2_with fail
        refine HNM.out.mono ?_
        rintro e v1 ⟨rfl, hb2⟩
        have K := HH.out.keep hb2
        clear HH hb2 y2 y3 l3 HNM hl1 hl2
        have HRN := Lib.hid (rightName_any n.house n.num v1)
        have HK := Lib.hid K
        clear K
        cases q2 : (inB n.house 1 8 && inB n.num 1 400) with
        | false =>
          have HQ : Hid (formedB f n = false) := by rw [HVV.out, q1, q2]; exact Lib.hid rfl
          rw [q2] at HRN
          clear q1 q2
          go_wp2_with fail
          refine HRN.out.mono ?_
          rintro e v2 ⟨rfl, hb3⟩
          go_wp2_with fail
          go_ret
          exact ⟨ret_bool HQ.out.symm, HK.out.be.trans (hb3.mono HK.out.be.size)⟩
        | true =>
          have HVW : Hid (formedB f n = (inB n.clock 1 1099511627776 && (inB n.day 0 99999 && sameB (rest2 n) note0))) := by rw [HVV.out, q1, q2]; exact Lib.hid rfl
          rw [q2] at HRN
          clear q1 q2 HVV
          go_wp2_with fail
          refine HRN.out.mono ?_
          rintro e v2 ⟨rfl, hb3⟩
          have K2 := HK.out.keep hb3
          clear HK hb3 HRN
          have y2 := K2.nt.cell 2
          have y3 := K2.nt.cell 3
          simp [NoteD.arr] at y2 y3
          have l4 := load68_eq (rest2 n) K2.re
          have HSS := Lib.hid (HSM.out v2 K2.be)
          have HK := Lib.hid K2
          clear K2
          cases q3 : inB n.clock 1 1099511627776 with
          | false =>
            have HQ : Hid (formedB f n = false) := by rw [HVW.out, q3]; exact Lib.hid rfl
            go_wp2_with (go_at_call 36; refine (hin_any _ _ _ _).mono ?_; rintro e v3 ⟨rfl, rfl⟩; rw [q3])
            go_ret
            exact ⟨ret_bool HQ.out.symm, HK.out.be⟩
          | true =>
            cases q4 : inB n.day 0 99999 with
            | false =>
              have HQ : Hid (formedB f n = false) := by rw [HVW.out, q3, q4]; exact Lib.hid rfl
              go_wp2_with (go_at_call 36; refine (hin_any _ _ _ _).mono ?_; rintro e v3 ⟨rfl, rfl⟩; first | rw [q3] | rw [q4])
              go_ret
              exact ⟨ret_bool HQ.out.symm, HK.out.be⟩
            | true =>
              have HQ : Hid (formedB f n = sameB (rest2 n) note0) := by rw [HVW.out, q3, q4]; exact Lib.hid rfl
              go_wp2_with (first | (go_at_call 36; refine (hin_any _ _ _ _).mono ?_; rintro e v3 ⟨rfl, rfl⟩; first | rw [q3] | rw [q4]) | (go_at_call 117; refine HSS.out.mono ?_; rintro e v4 ⟨rfl, hb5⟩))
              go_ret
              exact ⟨ret_bool HQ.out.symm, HK.out.be.trans (hb5.mono HK.out.be.size)⟩
  · by_cases k5 : n.kind = 5
    · rw [k5] at H1 y4 ⊢
      have HR : Hid (rest1 n = { saidN n.fix (saidN 5 n) with fix := 0 }) := by unfold rest1; rw [if_neg k2, if_pos k5]; exact Lib.hid rfl
      have HO : Hid (ok1 f n = (saidB f 5 n && (saidB f n.fix (saidN 5 n) && inB n.fix 1 4))) := by unfold ok1; rw [if_neg k2, if_pos k5]; exact Lib.hid rfl
      have l5 := load68_eq (saidN 5 n) H1.re
      have f0 := H1.fr.cell 0
      have f1 := H1.fr.cell 1
      have f2 := H1.fr.cell 2
      have y18 := H1.nt.cell 18
      simp [NoteD.arr] at f0 f1 f2 y18
      have HS := Lib.hid (HSD2.out U H1.be n.fix)
      have HK := Lib.hid H1
      clear H1 k2 k5 HSD2
      go_wp2_with fail
      refine HS.out.mono ?_
      rintro e w3 ⟨rfl, hb3⟩
      have H2 := HK.out.keep hb3
      clear HK hb3 HS l5 f0 f1 f2 y18 y4
      obtain ⟨p, hp⟩ : ∃ p, w3.heap.size = p := ⟨_, rfl⟩
      have hqp : q < p := by have := H2.re.lt; omega
      have s1 := storeN_eq (ty := 68) (cs := (saidN n.fix (saidN 5 n)).arr) (bk_last (w := w3) (t := 68) (cs := #[.int .i64 0, .int .i64 0, .int .i64 0, .int .i64 0, .int .i64 0, .int .i64 0, .int .i64 0, .int .i64 0, .int .i64 0, .int .i64 0, .int .i64 0, .int .i64 0, .int .i64 0, .int .i64 0, .int .i64 0, .slice none 0 0, .int .i64 0, .int .i64 0, .int .i64 0]) hp) (by kernel_rfl) rfl (arr_one _)
      have hP : Bk ((w3.alloc (.cells #[.int .i64 0, .int .i64 0, .int .i64 0, .int .i64 0, .int .i64 0, .int .i64 0, .int .i64 0, .int .i64 0, .int .i64 0, .int .i64 0, .int .i64 0, .int .i64 0, .int .i64 0, .int .i64 0, .int .i64 0, .slice none 0 0, .int .i64 0, .int .i64 0, .int .i64 0] 68)).setRow p (saidN n.fix (saidN 5 n)).arr) p 68 (saidN n.fix (saidN 5 n)).arr := setRow_at (bk_last hp) _
      have H3 : FmAt f n (saidN 5 n) q w ((w3.alloc (.cells #[.int .i64 0, .int .i64 0, .int .i64 0, .int .i64 0, .int .i64 0, .int .i64 0, .int .i64 0, .int .i64 0, .int .i64 0, .int .i64 0, .int .i64 0, .int .i64 0, .int .i64 0, .int .i64 0, .int .i64 0, .slice none 0 0, .int .i64 0, .int .i64 0, .int .i64 0] 68)).setRow p (saidN n.fix (saidN 5 n)).arr) :=
        ⟨(H2.fr.alloc _).farRow (by omega) _, (H2.nt.alloc _).farRow (by omega) _, (H2.re.alloc _).farRow (by omega) _, below_setRow (H2.be.alloc H2.be.size _) (by omega) _⟩
      have HK := Lib.hid (And.intro H3 hP)
      clear H2 H3 hP
      go_upto_region 8 with fail
      clear s1 hp
      generalize (w3.alloc _).setRow p _ = U3 at *
      obtain ⟨H3, hP⟩ := HK.out
      clear HK
      have l6 := load68_eq _ hP
      have s2 := storeN_eq (ty := 68) (cs := (saidN n.fix (saidN 5 n)).arr) H3.re (by kernel_rfl) rfl (arr_one _)
      have H4 : FmAt f n (saidN n.fix (saidN 5 n)) q w (U3.setRow q (saidN n.fix (saidN 5 n)).arr) :=
        ⟨H3.fr.farRow (by omega) _, H3.nt.farRow (by omega) _, setRow_at H3.re _, below_setRow H3.be (by omega) _⟩
      have HK := Lib.hid H4
      clear H3 hP H4
      go_upto_region 9 with fail
      clear l6 s2
      generalize U3.setRow q _ = U4 at *
      have H1 := HK.out
      clear HK
      have y18 := H1.nt.cell 18
      have hlt := H1.re.lt
      have z18 := H1.re.fz 18
      have u18 := H1.re.cell 18
      simp [NoteD.arr] at y18 u18
      have H2 : FmAt f n { saidN n.fix (saidN 5 n) with fix := 0 } q w (U4.setCell ⟨q, 18, none⟩ (.int .i64 0)) := H1.put hq 18 (.int .i64 0) rfl
      rw [← HR.out] at H2
      have HK := Lib.hid H2
      clear H1 H2 HR hqp
      cases q0 : saidB f 5 n with
      | false =>
        have HF : Hid (ok1 f n = false) := by rw [HO.out, q0]; exact Lib.hid rfl
        clear HO q0
        go_upto_region 11 with fail
        clear y18 hlt z18 u18
        generalize U4.setCell _ _ = U at *
        have H1 := HK.out
        clear HK
        have hlt := H1.re.lt
        have z0 := H1.re.fz 0
        have u0 := H1.re.cell 0
        have z1 := H1.re.fz 1
        have u1 := H1.re.cell 1
        have z2 := H1.re.fz 2
        have u2 := H1.re.cell 2
        have z3 := H1.re.fz 3
        have u3 := H1.re.cell 3
        have z4 := H1.re.fz 4
        have u4 := H1.re.cell 4
        simp [NoteD.arr] at u0 u1 u2 u3 u4
        have H2 : FmAt f n ({ rest1 n with house := 0 }) q w (U.setCell ⟨q, 0, none⟩ (.int .i64 0)) := H1.put hq 0 (.int .i64 0) rfl
        have H3 : FmAt f n ({ rest1 n with house := 0, num := 0 }) q w ((U.setCell ⟨q, 0, none⟩ (.int .i64 0)).setCell ⟨q, 1, none⟩ (.int .i64 0)) := H2.put hq 1 (.int .i64 0) rfl
        have H4 : FmAt f n ({ rest1 n with house := 0, num := 0, clock := 0 }) q w (((U.setCell ⟨q, 0, none⟩ (.int .i64 0)).setCell ⟨q, 1, none⟩ (.int .i64 0)).setCell ⟨q, 2, none⟩ (.int .i64 0)) := H3.put hq 2 (.int .i64 0) rfl
        have H5 : FmAt f n ({ rest1 n with house := 0, num := 0, clock := 0, day := 0 }) q w ((((U.setCell ⟨q, 0, none⟩ (.int .i64 0)).setCell ⟨q, 1, none⟩ (.int .i64 0)).setCell ⟨q, 2, none⟩ (.int .i64 0)).setCell ⟨q, 3, none⟩ (.int .i64 0)) := H4.put hq 3 (.int .i64 0) rfl
        have H6 : FmAt f n (rest2 n) q w (((((U.setCell ⟨q, 0, none⟩ (.int .i64 0)).setCell ⟨q, 1, none⟩ (.int .i64 0)).setCell ⟨q, 2, none⟩ (.int .i64 0)).setCell ⟨q, 3, none⟩ (.int .i64 0)).setCell ⟨q, 4, none⟩ (.int .i64 0)) := H5.put hq 4 (.int .i64 0) rfl
        have HH := Lib.hid H6
        clear H1 H2 H3 H4 H5 H6
        go_upto_region 12 with fail
        clear hlt z0 z1 z2 z3 z4 u0 u1 u2 u3 u4
        generalize (((((U.setCell ⟨q, 0, none⟩ (.int .i64 0)).setCell ⟨q, 1, none⟩ (.int .i64 0)).setCell ⟨q, 2, none⟩ (.int .i64 0)).setCell ⟨q, 3, none⟩ (.int .i64 0)).setCell ⟨q, 4, none⟩ (.int .i64 0)) = V at *
        have H := HH.out
        clear HH
        have l3 := load68_eq n H.nt
        have y2 := H.nt.cell 2
        have y3 := H.nt.cell 3
        simp [NoteD.arr] at y2 y3
        have HH := Lib.hid H
        have HVV : Hid (formedB f n = (ok1 f n && ((inB n.house 1 8 && inB n.num 1 400) && (inB n.clock 1 1099511627776 && (inB n.day 0 99999 && sameB (rest2 n) note0))))) := Lib.hid rfl
        have hl1 := H.nt.lt
        have hl2 := H.re.lt
        clear H
        have HQ : Hid (formedB f n = false) := by rw [HVV.out, HF.out]; exact Lib.hid rfl
        go_wp2_with fail
        go_ret
        exact ⟨ret_bool HQ.out.symm, HH.out.be⟩
      | true =>
        cases q9 : saidB f n.fix (saidN 5 n) with
        | false =>
          have HF : Hid (ok1 f n = false) := by rw [HO.out, q0, q9]; exact Lib.hid rfl
          clear HO q0 q9
          go_upto_region 11 with fail
          clear y18 hlt z18 u18
          generalize U4.setCell _ _ = U at *
          have H1 := HK.out
          clear HK
          have hlt := H1.re.lt
          have z0 := H1.re.fz 0
          have u0 := H1.re.cell 0
          have z1 := H1.re.fz 1
          have u1 := H1.re.cell 1
          have z2 := H1.re.fz 2
          have u2 := H1.re.cell 2
          have z3 := H1.re.fz 3
          have u3 := H1.re.cell 3
          have z4 := H1.re.fz 4
          have u4 := H1.re.cell 4
          simp [NoteD.arr] at u0 u1 u2 u3 u4
          have H2 : FmAt f n ({ rest1 n with house := 0 }) q w (U.setCell ⟨q, 0, none⟩ (.int .i64 0)) := H1.put hq 0 (.int .i64 0) rfl
          have H3 : FmAt f n ({ rest1 n with house := 0, num := 0 }) q w ((U.setCell ⟨q, 0, none⟩ (.int .i64 0)).setCell ⟨q, 1, none⟩ (.int .i64 0)) := H2.put hq 1 (.int .i64 0) rfl
          have H4 : FmAt f n ({ rest1 n with house := 0, num := 0, clock := 0 }) q w (((U.setCell ⟨q, 0, none⟩ (.int .i64 0)).setCell ⟨q, 1, none⟩ (.int .i64 0)).setCell ⟨q, 2, none⟩ (.int .i64 0)) := H3.put hq 2 (.int .i64 0) rfl
          have H5 : FmAt f n ({ rest1 n with house := 0, num := 0, clock := 0, day := 0 }) q w ((((U.setCell ⟨q, 0, none⟩ (.int .i64 0)).setCell ⟨q, 1, none⟩ (.int .i64 0)).setCell ⟨q, 2, none⟩ (.int .i64 0)).setCell ⟨q, 3, none⟩ (.int .i64 0)) := H4.put hq 3 (.int .i64 0) rfl
          have H6 : FmAt f n (rest2 n) q w (((((U.setCell ⟨q, 0, none⟩ (.int .i64 0)).setCell ⟨q, 1, none⟩ (.int .i64 0)).setCell ⟨q, 2, none⟩ (.int .i64 0)).setCell ⟨q, 3, none⟩ (.int .i64 0)).setCell ⟨q, 4, none⟩ (.int .i64 0)) := H5.put hq 4 (.int .i64 0) rfl
          have HH := Lib.hid H6
          clear H1 H2 H3 H4 H5 H6
          go_upto_region 12 with fail
          clear hlt z0 z1 z2 z3 z4 u0 u1 u2 u3 u4
          generalize (((((U.setCell ⟨q, 0, none⟩ (.int .i64 0)).setCell ⟨q, 1, none⟩ (.int .i64 0)).setCell ⟨q, 2, none⟩ (.int .i64 0)).setCell ⟨q, 3, none⟩ (.int .i64 0)).setCell ⟨q, 4, none⟩ (.int .i64 0)) = V at *
          have H := HH.out
          clear HH
          have l3 := load68_eq n H.nt
          have y2 := H.nt.cell 2
          have y3 := H.nt.cell 3
          simp [NoteD.arr] at y2 y3
          have HH := Lib.hid H
          have HVV : Hid (formedB f n = (ok1 f n && ((inB n.house 1 8 && inB n.num 1 400) && (inB n.clock 1 1099511627776 && (inB n.day 0 99999 && sameB (rest2 n) note0))))) := Lib.hid rfl
          have hl1 := H.nt.lt
          have hl2 := H.re.lt
          clear H
          have HQ : Hid (formedB f n = false) := by rw [HVV.out, HF.out]; exact Lib.hid rfl
          go_wp2_with fail
          go_ret
          exact ⟨ret_bool HQ.out.symm, HH.out.be⟩
        | true =>
          have HF : Hid (inB n.fix 1 4 = ok1 f n) := by rw [HO.out, q0, q9]; exact Lib.hid rfl
          clear HO q0 q9
          go_upto_region 11 with (go_at_call 36; refine (hin_any _ _ _ _).mono ?_; rintro e v3 ⟨rfl, rfl⟩; rw [HF.out])
          clear y18 hlt z18 u18 HF
          generalize U4.setCell _ _ = U at *
          have H1 := HK.out
          clear HK
          have hlt := H1.re.lt
          have z0 := H1.re.fz 0
          have u0 := H1.re.cell 0
          have z1 := H1.re.fz 1
          have u1 := H1.re.cell 1
          have z2 := H1.re.fz 2
          have u2 := H1.re.cell 2
          have z3 := H1.re.fz 3
          have u3 := H1.re.cell 3
          have z4 := H1.re.fz 4
          have u4 := H1.re.cell 4
          simp [NoteD.arr] at u0 u1 u2 u3 u4
          have H2 : FmAt f n ({ rest1 n with house := 0 }) q w (U.setCell ⟨q, 0, none⟩ (.int .i64 0)) := H1.put hq 0 (.int .i64 0) rfl
          have H3 : FmAt f n ({ rest1 n with house := 0, num := 0 }) q w ((U.setCell ⟨q, 0, none⟩ (.int .i64 0)).setCell ⟨q, 1, none⟩ (.int .i64 0)) := H2.put hq 1 (.int .i64 0) rfl
          have H4 : FmAt f n ({ rest1 n with house := 0, num := 0, clock := 0 }) q w (((U.setCell ⟨q, 0, none⟩ (.int .i64 0)).setCell ⟨q, 1, none⟩ (.int .i64 0)).setCell ⟨q, 2, none⟩ (.int .i64 0)) := H3.put hq 2 (.int .i64 0) rfl
          have H5 : FmAt f n ({ rest1 n with house := 0, num := 0, clock := 0, day := 0 }) q w ((((U.setCell ⟨q, 0, none⟩ (.int .i64 0)).setCell ⟨q, 1, none⟩ (.int .i64 0)).setCell ⟨q, 2, none⟩ (.int .i64 0)).setCell ⟨q, 3, none⟩ (.int .i64 0)) := H4.put hq 3 (.int .i64 0) rfl
          have H6 : FmAt f n (rest2 n) q w (((((U.setCell ⟨q, 0, none⟩ (.int .i64 0)).setCell ⟨q, 1, none⟩ (.int .i64 0)).setCell ⟨q, 2, none⟩ (.int .i64 0)).setCell ⟨q, 3, none⟩ (.int .i64 0)).setCell ⟨q, 4, none⟩ (.int .i64 0)) := H5.put hq 4 (.int .i64 0) rfl
          have HH := Lib.hid H6
          clear H1 H2 H3 H4 H5 H6
          go_upto_region 12 with fail
          clear hlt z0 z1 z2 z3 z4 u0 u1 u2 u3 u4
          generalize (((((U.setCell ⟨q, 0, none⟩ (.int .i64 0)).setCell ⟨q, 1, none⟩ (.int .i64 0)).setCell ⟨q, 2, none⟩ (.int .i64 0)).setCell ⟨q, 3, none⟩ (.int .i64 0)).setCell ⟨q, 4, none⟩ (.int .i64 0)) = V at *
          have H := HH.out
          clear HH
          have l3 := load68_eq n H.nt
          have y2 := H.nt.cell 2
          have y3 := H.nt.cell 3
          simp [NoteD.arr] at y2 y3
          have HH := Lib.hid H
          have HVV : Hid (formedB f n = (ok1 f n && ((inB n.house 1 8 && inB n.num 1 400) && (inB n.clock 1 1099511627776 && (inB n.day 0 99999 && sameB (rest2 n) note0))))) := Lib.hid rfl
          have hl1 := H.nt.lt
          have hl2 := H.re.lt
          clear H
          cases q1 : ok1 f n with
          | false =>
            have HQ : Hid (formedB f n = false) := by rw [HVV.out, q1]; exact Lib.hid rfl
            go_wp2_with fail
            go_ret
            exact ⟨ret_bool HQ.out.symm, HH.out.be⟩
          | true =>
            have HNM := Lib.hid (nameOf_any n V)
            go_wp2_with fail
            refine HNM.out.mono ?_
            rintro e v1 ⟨rfl, hb2⟩
            have K := HH.out.keep hb2
            clear HH hb2 y2 y3 l3 HNM hl1 hl2
            have HRN := Lib.hid (rightName_any n.house n.num v1)
            have HK := Lib.hid K
            clear K
            cases q2 : (inB n.house 1 8 && inB n.num 1 400) with
            | false =>
              have HQ : Hid (formedB f n = false) := by rw [HVV.out, q1, q2]; exact Lib.hid rfl
              rw [q2] at HRN
              clear q1 q2
              go_wp2_with fail
              refine HRN.out.mono ?_
              rintro e v2 ⟨rfl, hb3⟩
              go_wp2_with fail
              go_ret
              exact ⟨ret_bool HQ.out.symm, HK.out.be.trans (hb3.mono HK.out.be.size)⟩
            | true =>
              have HVW : Hid (formedB f n = (inB n.clock 1 1099511627776 && (inB n.day 0 99999 && sameB (rest2 n) note0))) := by rw [HVV.out, q1, q2]; exact Lib.hid rfl
              rw [q2] at HRN
              clear q1 q2 HVV
              go_wp2_with fail
              refine HRN.out.mono ?_
              rintro e v2 ⟨rfl, hb3⟩
              have K2 := HK.out.keep hb3
              clear HK hb3 HRN
              have y2 := K2.nt.cell 2
              have y3 := K2.nt.cell 3
              simp [NoteD.arr] at y2 y3
              have l4 := load68_eq (rest2 n) K2.re
              have HSS := Lib.hid (HSM.out v2 K2.be)
              have HK := Lib.hid K2
              clear K2
              cases q3 : inB n.clock 1 1099511627776 with
              | false =>
                have HQ : Hid (formedB f n = false) := by rw [HVW.out, q3]; exact Lib.hid rfl
                go_wp2_with (go_at_call 36; refine (hin_any _ _ _ _).mono ?_; rintro e v3 ⟨rfl, rfl⟩; rw [q3])
                go_ret
                exact ⟨ret_bool HQ.out.symm, HK.out.be⟩
              | true =>
                cases q4 : inB n.day 0 99999 with
                | false =>
                  have HQ : Hid (formedB f n = false) := by rw [HVW.out, q3, q4]; exact Lib.hid rfl
                  go_wp2_with (go_at_call 36; refine (hin_any _ _ _ _).mono ?_; rintro e v3 ⟨rfl, rfl⟩; first | rw [q3] | rw [q4])
                  go_ret
                  exact ⟨ret_bool HQ.out.symm, HK.out.be⟩
                | true =>
                  have HQ : Hid (formedB f n = sameB (rest2 n) note0) := by rw [HVW.out, q3, q4]; exact Lib.hid rfl
                  go_wp2_with (first | (go_at_call 36; refine (hin_any _ _ _ _).mono ?_; rintro e v3 ⟨rfl, rfl⟩; first | rw [q3] | rw [q4]) | (go_at_call 117; refine HSS.out.mono ?_; rintro e v4 ⟨rfl, hb5⟩))
                  go_ret
                  exact ⟨ret_bool HQ.out.symm, HK.out.be.trans (hb5.mono HK.out.be.size)⟩
    · have k2b : (n.kind == 2) = false := by simpa using k2
      have k5b : (n.kind == 5) = false := by simpa using k5
      have HR : Hid (rest1 n = saidN n.kind n) := by unfold rest1; rw [if_neg k2, if_neg k5]; exact Lib.hid rfl
      have HO : Hid (saidB f n.kind n = ok1 f n) := by unfold ok1; rw [if_neg k2, if_neg k5]; exact Lib.hid rfl
      rw [← HR.out] at H1
      rw [HO.out]
      clear HR HO k2 k5
      go_upto_region 11 with fail
      clear k2b k5b y4
      have hlt := H1.re.lt
      have z0 := H1.re.fz 0
      have u0 := H1.re.cell 0
      have z1 := H1.re.fz 1
      have u1 := H1.re.cell 1
      have z2 := H1.re.fz 2
      have u2 := H1.re.cell 2
      have z3 := H1.re.fz 3
      have u3 := H1.re.cell 3
      have z4 := H1.re.fz 4
      have u4 := H1.re.cell 4
      simp [NoteD.arr] at u0 u1 u2 u3 u4
      have H2 : FmAt f n ({ rest1 n with house := 0 }) q w (U.setCell ⟨q, 0, none⟩ (.int .i64 0)) := H1.put hq 0 (.int .i64 0) rfl
      have H3 : FmAt f n ({ rest1 n with house := 0, num := 0 }) q w ((U.setCell ⟨q, 0, none⟩ (.int .i64 0)).setCell ⟨q, 1, none⟩ (.int .i64 0)) := H2.put hq 1 (.int .i64 0) rfl
      have H4 : FmAt f n ({ rest1 n with house := 0, num := 0, clock := 0 }) q w (((U.setCell ⟨q, 0, none⟩ (.int .i64 0)).setCell ⟨q, 1, none⟩ (.int .i64 0)).setCell ⟨q, 2, none⟩ (.int .i64 0)) := H3.put hq 2 (.int .i64 0) rfl
      have H5 : FmAt f n ({ rest1 n with house := 0, num := 0, clock := 0, day := 0 }) q w ((((U.setCell ⟨q, 0, none⟩ (.int .i64 0)).setCell ⟨q, 1, none⟩ (.int .i64 0)).setCell ⟨q, 2, none⟩ (.int .i64 0)).setCell ⟨q, 3, none⟩ (.int .i64 0)) := H4.put hq 3 (.int .i64 0) rfl
      have H6 : FmAt f n (rest2 n) q w (((((U.setCell ⟨q, 0, none⟩ (.int .i64 0)).setCell ⟨q, 1, none⟩ (.int .i64 0)).setCell ⟨q, 2, none⟩ (.int .i64 0)).setCell ⟨q, 3, none⟩ (.int .i64 0)).setCell ⟨q, 4, none⟩ (.int .i64 0)) := H5.put hq 4 (.int .i64 0) rfl
      have HH := Lib.hid H6
      clear H1 H2 H3 H4 H5 H6
      go_upto_region 12 with fail
      clear hlt z0 z1 z2 z3 z4 u0 u1 u2 u3 u4
      generalize (((((U.setCell ⟨q, 0, none⟩ (.int .i64 0)).setCell ⟨q, 1, none⟩ (.int .i64 0)).setCell ⟨q, 2, none⟩ (.int .i64 0)).setCell ⟨q, 3, none⟩ (.int .i64 0)).setCell ⟨q, 4, none⟩ (.int .i64 0)) = V at *
      have H := HH.out
      clear HH
      have l3 := load68_eq n H.nt
      have y2 := H.nt.cell 2
      have y3 := H.nt.cell 3
      simp [NoteD.arr] at y2 y3
      have HH := Lib.hid H
      have HVV : Hid (formedB f n = (ok1 f n && ((inB n.house 1 8 && inB n.num 1 400) && (inB n.clock 1 1099511627776 && (inB n.day 0 99999 && sameB (rest2 n) note0))))) := Lib.hid rfl
      have hl1 := H.nt.lt
      have hl2 := H.re.lt
      clear H
      cases q1 : ok1 f n with
      | false =>
        have HQ : Hid (formedB f n = false) := by rw [HVV.out, q1]; exact Lib.hid rfl
        go_wp2_with fail
        go_ret
        exact ⟨ret_bool HQ.out.symm, HH.out.be⟩
      | true =>
        have HNM := Lib.hid (nameOf_any n V)
        go_wp2_with fail
        refine HNM.out.mono ?_
        rintro e v1 ⟨rfl, hb2⟩
        have K := HH.out.keep hb2
        clear HH hb2 y2 y3 l3 HNM hl1 hl2
        have HRN := Lib.hid (rightName_any n.house n.num v1)
        have HK := Lib.hid K
        clear K
        cases q2 : (inB n.house 1 8 && inB n.num 1 400) with
        | false =>
          have HQ : Hid (formedB f n = false) := by rw [HVV.out, q1, q2]; exact Lib.hid rfl
          rw [q2] at HRN
          clear q1 q2
          go_wp2_with fail
          refine HRN.out.mono ?_
          rintro e v2 ⟨rfl, hb3⟩
          go_wp2_with fail
          go_ret
          exact ⟨ret_bool HQ.out.symm, HK.out.be.trans (hb3.mono HK.out.be.size)⟩
        | true =>
          have HVW : Hid (formedB f n = (inB n.clock 1 1099511627776 && (inB n.day 0 99999 && sameB (rest2 n) note0))) := by rw [HVV.out, q1, q2]; exact Lib.hid rfl
          rw [q2] at HRN
          clear q1 q2 HVV
          go_wp2_with fail
          refine HRN.out.mono ?_
          rintro e v2 ⟨rfl, hb3⟩
          have K2 := HK.out.keep hb3
          clear HK hb3 HRN
          have y2 := K2.nt.cell 2
          have y3 := K2.nt.cell 3
          simp [NoteD.arr] at y2 y3
          have l4 := load68_eq (rest2 n) K2.re
          have HSS := Lib.hid (HSM.out v2 K2.be)
          have HK := Lib.hid K2
          clear K2
          cases q3 : inB n.clock 1 1099511627776 with
          | false =>
            have HQ : Hid (formedB f n = false) := by rw [HVW.out, q3]; exact Lib.hid rfl
            go_wp2_with (go_at_call 36; refine (hin_any _ _ _ _).mono ?_; rintro e v3 ⟨rfl, rfl⟩; rw [q3])
            go_ret
            exact ⟨ret_bool HQ.out.symm, HK.out.be⟩
          | true =>
            cases q4 : inB n.day 0 99999 with
            | false =>
              have HQ : Hid (formedB f n = false) := by rw [HVW.out, q3, q4]; exact Lib.hid rfl
              go_wp2_with (go_at_call 36; refine (hin_any _ _ _ _).mono ?_; rintro e v3 ⟨rfl, rfl⟩; first | rw [q3] | rw [q4])
              go_ret
              exact ⟨ret_bool HQ.out.symm, HK.out.be⟩
            | true =>
              have HQ : Hid (formedB f n = sameB (rest2 n) note0) := by rw [HVW.out, q3, q4]; exact Lib.hid rfl
              go_wp2_with (first | (go_at_call 36; refine (hin_any _ _ _ _).mono ?_; rintro e v3 ⟨rfl, rfl⟩; first | rw [q3] | rw [q4]) | (go_at_call 117; refine HSS.out.mono ?_; rintro e v4 ⟨rfl, hb5⟩))
              go_ret
              exact ⟨ret_bool HQ.out.symm, HK.out.be.trans (hb5.mono HK.out.be.size)⟩
end Go.Proofs.YteihcodicfoiaaaGreat
