/-
  What is proved: the contract of CheckSet; notes in memory.
-/
import Derived.Test.YteihcodicfoiaaaGreatFormedMw
namespace Go.Proofs.YteihcodicfoiaaaGreat
open Go.RowKit

def noteCells (l : List NoteD) : List Value := l.flatMap fun n => n.arr.toList
/-- A list of notes in memory. -/
structure NotesAt (w : World) (A : Option Addr) (l : List NoteD) : Prop where
  row : RowAt w A (noteCells l)
  str : ∀ n ∈ l, n.At w
theorem NotesAt.below {w w' : World} {A : Option Addr} {l : List NoteD} (h : NotesAt w A l) (hb : Below w.heap.size w w') : NotesAt w' A l :=
  ⟨h.row.below hb, fun n hn => (h.str n hn).below hb⟩
theorem note_load {w : World} {A : Option Addr} {l : List NoteD} (h : NotesAt w A l) (h0 : 0 < l.length) :
    ∃ b off, A = some ⟨b, off, none⟩ ∧ b < w.heap.size ∧ ∀ k, k < l.length → loadN 68 (.pointer (some ⟨b, off + k * 19, none⟩)) w = .ok (.agg (l.getD k note0).arr) w := by
  have hl : (noteCells l).length = l.length * 19 := flat_len _ 19 (fun _ => rfl) l
  obtain ⟨b, off, h1, h2, h3⟩ := h.row.some_ (by omega)
  refine ⟨b, off, h1, h2, fun k hk => ?_⟩
  have := loadN_at (ty := 68) (w := w) (b := b) (off := off + k * 19) (cs := (l.getD k note0).arr.toList) (fun j u hu => ?_) (rfl) Tryz.underlying68 (by kernel_rfl)
  · simpa using this
  · have hj : j < 19 := (List.getElem?_eq_some_iff.1 hu).1
    have e := flat_get (fun n : NoteD => n.arr.toList) 19 (fun _ => rfl) (by omega) l k j hk hj
    rw [getD_get _ _ hk] at hu
    rw [Nat.add_assoc]
    exact h3 (k * 19 + j) u (e.trans hu)

theorem note_at {w : World} {A : Option Addr} {b off : Nat} {l : List NoteD} (h0 : NotesAt w A l) (hA : A = some ⟨b, off, none⟩) {k : Nat} (hk : k < l.length) : loadN 68 (.pointer (some ⟨b, off + k * 19, none⟩)) w = .ok (.agg (l.getD k note0).arr) w := by
  have h := h0
  rw [hA] at h
  obtain ⟨b', off', h1, _, h3⟩ := note_load h (by omega)
  simp only [Option.some.injEq, Addr.mk.injEq, and_true] at h1
  obtain ⟨rfl, rfl⟩ := h1
  exact h3 k hk

/-- What is asked of the note k of a set. -/
def csOk (f : FrD) (l : List NoteD) (k : Nat) : Bool := formedB f (l.getD k note0) && (decide (k = 0) || decide (cmpName (l.getD (k - 1) note0).name (l.getD k note0).name < 0))
def setB (f : FrD) (l : List NoteD) : Bool := decide (l.length ≤ 400) && (List.range l.length).all (csOk f l)
theorem setB_bad {f : FrD} {l : List NoteD} {k : Nat} (hk : k < l.length) (h : csOk f l k = false) : setB f l = false := by
  have : (List.range l.length).all (csOk f l) = false := by
    rw [List.all_eq_false]
    exact ⟨k, List.mem_range.2 hk, by simp [h]⟩
  simp [setB, this]
def CheckSetP (f : FrD) (l : List NoteD) (w : World) (e : Ending) (w' : World) : Prop :=
  Below w.heap.size w w' ∧ ((setB f l = true ∧ e = .returned (.tuple #[.int .i64 0, .int .i64 0])) ∨ (setB f l = false ∧ ∃ n i : Int, n ≠ 0 ∧ e = .returned (.tuple #[.int .i64 n, .int .i64 i])))

attribute [local go_sem ↓] load_at68 load_run store_at68 store_run
set_option maxRecDepth 100000 in
set_option maxHeartbeats 8000000 in
theorem CheckSet_any (f : FrD) (hf : f.Ok) (A : Option Addr) (c : Nat) (l : List NoteD) (w : World) (hl : NotesAt w A l) (hn : l.length ≤ 9223372036854775807) (hs : ∀ n ∈ l, n.strokes.length ≤ 9223372036854775807) :
    Calls Tryz.prog 84 #[f.val, .slice A l.length c] w (CheckSetP f l w) := by
  have HVA := Lib.hid (fun X : World => fvalid_any f hf X)
  have HFM := Lib.hid (fun (X : World) (h : Below w.heap.size w X) (n : NoteD) (hn : n ∈ l) => formed_any f n X hf ((hl.below h).str n hn) (hs n hn))
  have HL := Lib.hid (fun (X : World) (h : Below w.heap.size w X) => hl.below h)
  unfold FrD.val at *
  obtain ⟨W, hW⟩ : ∃ W, (w.alloc (.cells #[.int .i64 f.rings, .int .i64 f.sec, .int .i64 f.wide] 45)).alloc (.cells #[.int .i64 f.rings, .int .i64 f.sec, .int .i64 f.wide] 112) = W := ⟨_, rfl⟩
  have hbW : Below w.heap.size w W := by rw [← hW]; exact ((Below.refl _ _).alloc (Nat.le_refl _) _).alloc (by simp) _
  have X := (show Bk W (w.heap.size + 1) 112 #[.int .i64 f.rings, .int .i64 f.sec, .int .i64 f.wide] by rw [← hW]; exact bk_last (by simp))
  have HW := Lib.hid hW
  have hlt := X.lt
  clear hW hl hs
  go_enter Tryz.func84, Tryz.ntmps84
  go_upto_region 2 with fail
  rw [HW.out]
  clear HW
  have x0 := X.cell 0
  have x1 := X.cell 1
  have x2 := X.cell 2
  simp at x0 x1 x2
  have HX := Lib.hid X
  clear X
  have HV := Lib.hid (HVA.out W)
  clear HVA
  go_wp2_with fail
  refine HV.out.mono ?_
  rintro e w1 ⟨rfl, hb1⟩
  have X1 := HX.out.keep hb1
  have hB1 := hbW.trans (hb1.mono hbW.size)
  clear HX HV x0 x1 x2 hb1 hlt hbW
  by_cases h400 : l.length ≤ 400
  · have h4I : ¬ (l.length : Int) > 400 := by omega
    have H4 := Lib.hid h400
    go_wp2_with fail
    go_loopw [22] (fun i wr => ∃ k : Nat, k ≤ l.length ∧ i = .int .i64 k ∧ Below w.heap.size w wr ∧ Bk wr (w.heap.size + 1) 112 #[.int .i64 f.rings, .int .i64 f.sec, .int .i64 f.wide] ∧ Hid (∀ j, j < k → csOk f l j = true)) (fun i _ => l.length - (intOf i).toNat)
    case atStart => exact ⟨0, Nat.zero_le _, rfl, hB1, X1, fun j h => absurd h (by omega)⟩
    case round =>
      clear hB1 X1
      obtain ⟨k, hk, rfl, hB, X, hall⟩ := hrel
      by_cases hlt : k < l.length
      · have hkI : (k : Int) < l.length := by omega
        obtain ⟨b5, o5, hA, hb5, hc5⟩ := note_load (HL.out wr hB) (by omega)
        have l0 := hc5 k hlt
        have HLK := Lib.hid hc5
        have HG : Hid (csOk f l k = false → setB f l = false) := fun h => setB_bad hlt h
        have HN : Hid (csOk f l k = true → ∀ j, j < k + 1 → csOk f l j = true) := fun h j hj => by
          rcases Nat.lt_or_ge j k with g | g
          · exact hall.out j g
          · obtain rfl : j = k := by omega
            exact h
        have HV : Hid (csOk f l k = (formedB f (l.getD k note0) && (decide (k = 0) || decide (cmpName (l.getD (k - 1) note0).name (l.getD k note0).name < 0)))) := Lib.hid rfl
        have HFO := Lib.hid (fun (X : World) (h : Below w.heap.size w X) => HFM.out X h (l.getD k note0) (getD_mem note0 hlt))
        have HA := Lib.hid hA
        rw [hA]
        obtain ⟨q, hq⟩ : ∃ q, wr.heap.size = q := ⟨_, rfl⟩
        have hXq := X.lt
        have hBq := hB.size
        have hbq : b5 < q := by omega
        have s1 := storeN_eq (ty := 68) (cs := (l.getD k note0).arr) (bk_last (w := wr) (t := 68) (cs := #[.int .i64 0, .int .i64 0, .int .i64 0, .int .i64 0, .int .i64 0, .int .i64 0, .int .i64 0, .int .i64 0, .int .i64 0, .int .i64 0, .int .i64 0, .int .i64 0, .int .i64 0, .int .i64 0, .int .i64 0, .slice none 0 0, .int .i64 0, .int .i64 0, .int .i64 0]) hq) (by kernel_rfl) rfl (arr_one _)
        have Y : Bk ((wr.alloc (.cells #[.int .i64 0, .int .i64 0, .int .i64 0, .int .i64 0, .int .i64 0, .int .i64 0, .int .i64 0, .int .i64 0, .int .i64 0, .int .i64 0, .int .i64 0, .int .i64 0, .int .i64 0, .int .i64 0, .int .i64 0, .slice none 0 0, .int .i64 0, .int .i64 0, .int .i64 0] 68)).setRow q (l.getD k note0).arr) q 68 (l.getD k note0).arr := setRow_at (bk_last hq) _
        have X2 : Bk ((wr.alloc (.cells #[.int .i64 0, .int .i64 0, .int .i64 0, .int .i64 0, .int .i64 0, .int .i64 0, .int .i64 0, .int .i64 0, .int .i64 0, .int .i64 0, .int .i64 0, .int .i64 0, .int .i64 0, .int .i64 0, .int .i64 0, .slice none 0 0, .int .i64 0, .int .i64 0, .int .i64 0] 68)).setRow q (l.getD k note0).arr) (w.heap.size + 1) 112 _ := (X.alloc _).farRow (by omega) _
        have hB2 : Below w.heap.size w ((wr.alloc (.cells #[.int .i64 0, .int .i64 0, .int .i64 0, .int .i64 0, .int .i64 0, .int .i64 0, .int .i64 0, .int .i64 0, .int .i64 0, .int .i64 0, .int .i64 0, .int .i64 0, .int .i64 0, .int .i64 0, .int .i64 0, .slice none 0 0, .int .i64 0, .int .i64 0, .int .i64 0] 68)).setRow q (l.getD k note0).arr) := below_setRow (hB.alloc (by omega) _) (by omega) _
        have HK := Lib.hid (And.intro Y (And.intro X2 hB2))
        clear Y X2 hB2 X hB hall hA HLK
        generalize hng : l.getD k note0 = n at *
        have HNG := Lib.hid hng
        clear hng hc5
        by_cases hk0 : 0 < k
        · have hk0I : (k : Int) > 0 := by omega
          have e1 : (k : Int) - 1 = ((k - 1 : Nat) : Int) := by omega
          have hm1 : ((k - 1 : Nat) : Int) < l.length := by omega
          have ew := IntWalk.i64_in (((k - 1 : Nat) : Int)) (by omega)
          go_upto_region 11 with fail
          clear s1 hq l0
          generalize (wr.alloc _).setRow q _ = V at *
          obtain ⟨Y, X, hB⟩ := HK.out
          clear HK
          obtain ⟨b6, o6, hA6, hb6, hc6⟩ := note_load (HL.out V hB) (by omega)
          obtain ⟨rfl, rfl⟩ : b5 = b6 ∧ o5 = o6 := by
            have := HA.out.symm.trans hA6
            injection this with this
            injection this with h1 h2 h3
            exact ⟨h1, h2⟩
          have ll := fun x : Ext V => (note_at (HL.out x.w (hB.trans (x.bel.mono hB.size))) HA.out (by omega : k - 1 < l.length))
          have ly := fun x : Ext V => load68_eq n (Y.keep x.bel)
          have HV2 : Hid (csOk f l k = (formedB f n && decide (cmpName (l.getD (k - 1) note0).name n.name < 0))) := by rw [HV.out, decide_eq_false (show ¬ k = 0 by omega)]; exact Lib.hid rfl
          generalize l.getD (k - 1) note0 = p at *
          have HNP := Lib.hid (fun x : Ext V => nameOf_any p x.w)
          have HNN := Lib.hid (fun x : Ext V => nameOf_any n x.w)
          have HCN := Lib.hid (fun x : Ext V => compareNames_any p.name n.name x.w)
          unfold nameV NoteD.name at HCN
          simp only at HCN
          have HKV := Lib.hid (And.intro Y (And.intro X hB))
          clear HV Y X hB hA6 hb6 hc6
          refine wp_region_ext (by kernel_rfl) (by kernel_rfl) ?_
          repeat (go_big_quiet_step (first | (go_at_call 73; (first | with_reducible exact ext_of (HNP.out _) | with_reducible exact ext_of (HNN.out _))) | (go_at_call 90; exact ext_of (HCN.out _))))
          refine wpQuiet_nil ?_
          rintro _ ⟨y, rfl⟩
          clear ll ly HNP HNN HCN
          have hb2 := y.bel
          generalize y.w = V2 at hb2 ⊢
          have Y := HKV.out.1.keep hb2
          have X := HKV.out.2.1.keep hb2
          have hB := HKV.out.2.2.trans (hb2.mono HKV.out.2.2.size)
          clear hb2 HKV
          have HOE : Hid (cmpName (p.house, p.num) (n.house, n.num) = cmpName p.name n.name) := Lib.hid rfl
          generalize hov : cmpName (p.house, p.num) (n.house, n.num) = o at *
          have HV3 : Hid (csOk f l k = (formedB f n && decide (o < 0))) := by rw [HV2.out, HOE.out]; exact Lib.hid rfl
          clear hov HV2 HOE
          generalize V2 = V at *
          have x0 := X.cell 0
          have x1 := X.cell 1
          have x2 := X.cell 2
          simp at x0 x1 x2
          have l3 := load68_eq n Y
          have HFV := Lib.hid (HFO.out V hB)
          have HXY := Lib.hid (And.intro X (And.intro Y hB))
          clear X Y hB
          cases q1 : formedB f n with
          | false =>
            have HQ := Lib.hid (HG.out (by rw [HV3.out, q1]; rfl))
            rw [q1] at HFV
            clear q1 HV3 HG HN
            go_wp2_with fail
            refine HFV.out.mono ?_
            rintro e v3 ⟨rfl, hb3⟩
            have hB3 := HXY.out.2.2.trans (hb3.mono HXY.out.2.2.size)
            have X3 := HXY.out.1.keep hb3
            clear HXY hb3 HFV x0 x1 x2 l3
            go_wp2_with fail
            go_ret2
            exact ⟨hB3, .inr ⟨HQ.out, _, _, by decide, rfl⟩⟩
          | true =>
            rw [q1] at HFV
            by_cases o0 : o = 0
            · have o0b : (o == 0) = true := by simpa using o0
              have HQ := Lib.hid (HG.out (by rw [HV3.out, q1, o0]; rfl))
              clear q1 HV3 HG HN o0
              go_wp2_with fail
              refine HFV.out.mono ?_
              rintro e v3 ⟨rfl, hb3⟩
              have hB3 := HXY.out.2.2.trans (hb3.mono HXY.out.2.2.size)
              have X3 := HXY.out.1.keep hb3
              clear HXY hb3 HFV x0 x1 x2 l3
              go_wp2_with fail
              go_ret2
              exact ⟨hB3, .inr ⟨HQ.out, _, _, by decide, rfl⟩⟩
            · have o0b : (o == 0) = false := by simpa using o0
              by_cases o1 : o > 0
              · have HQ := Lib.hid (HG.out (by rw [HV3.out, q1, decide_eq_false (show ¬ o < 0 by omega)]; rfl))
                clear q1 HV3 HG HN o0
                go_wp2_with fail
                refine HFV.out.mono ?_
                rintro e v3 ⟨rfl, hb3⟩
                have hB3 := HXY.out.2.2.trans (hb3.mono HXY.out.2.2.size)
                have X3 := HXY.out.1.keep hb3
                clear HXY hb3 HFV x0 x1 x2 l3
                go_wp2_with fail
                go_ret2
                exact ⟨hB3, .inr ⟨HQ.out, _, _, by decide, rfl⟩⟩
              · have HQ := Lib.hid (HN.out (by rw [HV3.out, q1, decide_eq_true (show o < 0 by omega)]; rfl))
                clear q1 HV3 HG HN o0
                go_wp2_with fail
                refine HFV.out.mono ?_
                rintro e v3 ⟨rfl, hb3⟩
                have hB3 := HXY.out.2.2.trans (hb3.mono HXY.out.2.2.size)
                have X3 := HXY.out.1.keep hb3
                clear HXY hb3 HFV x0 x1 x2 l3
                go_wp2_with fail
                go_roundw
                case rel => exact ⟨k + 1, by omega, by go_num, hB3, X3, HQ⟩
                case measure => simp [intOf]; omega
        · obtain rfl : k = 0 := by omega
          have HV3 : Hid (csOk f l 0 = formedB f n) := Lib.hid (by rw [HV.out]; simp)
          simp only [Nat.zero_mul, Nat.add_zero] at l0
          go_upto_region 12 with fail
          clear s1 hq l0 HV
          generalize (wr.alloc _).setRow q _ = V at *
          obtain ⟨Y, X, hB⟩ := HK.out
          clear HK
          have x0 := X.cell 0
          have x1 := X.cell 1
          have x2 := X.cell 2
          simp at x0 x1 x2
          have l3 := load68_eq n Y
          have HFV := Lib.hid (HFO.out V hB)
          have HXY := Lib.hid (And.intro X (And.intro Y hB))
          clear X Y hB
          cases q1 : formedB f n with
          | false =>
            have HQ := Lib.hid (HG.out (by rw [HV3.out, q1]))
            rw [q1] at HFV
            clear q1 HV3 HG HN
            go_wp2_with fail
            refine HFV.out.mono ?_
            rintro e v3 ⟨rfl, hb3⟩
            have hB3 := HXY.out.2.2.trans (hb3.mono HXY.out.2.2.size)
            have X3 := HXY.out.1.keep hb3
            clear HXY hb3 HFV x0 x1 x2 l3
            go_wp2_with fail
            go_ret2
            exact ⟨hB3, .inr ⟨HQ.out, _, _, by decide, rfl⟩⟩
          | true =>
            rw [q1] at HFV
            have HQ := Lib.hid (HN.out (by rw [HV3.out, q1]))
            clear q1 HV3 HG HN
            go_wp2_with fail
            refine HFV.out.mono ?_
            rintro e v3 ⟨rfl, hb3⟩
            have hB3 := HXY.out.2.2.trans (hb3.mono HXY.out.2.2.size)
            have X3 := HXY.out.1.keep hb3
            clear HXY hb3 HFV x0 x1 x2 l3
            go_wp2_with fail
            go_roundw
            case rel => exact ⟨1, by omega, by go_num, hB3, X3, HQ⟩
            case measure => simp [intOf]; omega

      · obtain rfl : k = l.length := by omega
        have HQ : Hid (setB f l = true) := by
          refine Lib.hid ?_
          unfold setB
          rw [decide_eq_true H4.out, Bool.true_and, List.all_eq_true]
          exact fun j hj => hall.out j (List.mem_range.1 hj)
        clear hall
        go_wp2_with fail
        go_ret2
        exact ⟨hB, .inl ⟨HQ.out, rfl⟩⟩
  · have h4I : (l.length : Int) > 400 := by omega
    have HQ : Hid (setB f l = false) := by refine Lib.hid ?_; unfold setB; rw [decide_eq_false h400]; rfl
    go_wp2_with fail
    go_ret2
    exact ⟨hB1, .inr ⟨HQ.out, _, _, by decide, rfl⟩⟩
end Go.Proofs.YteihcodicfoiaaaGreat
