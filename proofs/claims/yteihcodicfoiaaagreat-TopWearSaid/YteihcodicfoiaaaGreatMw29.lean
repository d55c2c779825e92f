/-
  What is proved: maps whose keys are names, in memory; the key type of the program; plain facts about sets of notes.
  What is proved: the contract of setOf.
  What is proved: ranges over maps of names in memory, in the walk's form; the contracts of AsOf's closure and of DeleteFunc when nothing is struck.
  What is proved: the contracts of judges, copied and counts.
-/
import Derived.Test.YteihcodicfoiaaaGreatCheckSMw
import Derived.Test.YteihcodicfoiaaaGreatMw23
import Derived.Test.YteihcodicfoiaaaGreatMw24
import Derived.Deep.RegionHeld3
import Derived.Deep.DeepCutAuto
import Derived.Test.YteihcodicfoiaaaGreatCloneAMw
namespace Go.Proofs.YteihcodicfoiaaaGreat
open Go.RowKit
open Go.ChangeMaps (setBlock)

theorem makeMap_run {P : Program} (t : TypeId) (w : World) : (Instr.makeMap t none).run P w = .ok (.map (some w.heap.size)) (w.alloc (.map #[] 0)) := rfl
/-- The map at g holds just f. -/
def MapIs (w : World) (g : Nat) (f : NameF) : Prop := ∃ es c, w.heap[g]? = some (.map es c) ∧ MapF f es c
theorem MapIs.lt {w : World} {g : Nat} {f : NameF} (h : MapIs w g f) : g < w.heap.size := by
  obtain ⟨es, c, h, _⟩ := h
  exact (Array.getElem?_eq_some_iff.1 h).1
theorem MapIs.of_eq {w w' : World} {g : Nat} {f : NameF} (h : MapIs w g f) (he : w'.heap[g]? = w.heap[g]?) : MapIs w' g f := by
  obtain ⟨es, c, h, hm⟩ := h
  exact ⟨es, c, he.trans h, hm⟩
theorem MapIs.keep {w w' : World} {B g : Nat} {f : NameF} (h : MapIs w g f) (hb : Below B w w') (hg : g < B) : MapIs w' g f := h.of_eq (hb.block g hg)
theorem MapIs.below {w w' : World} {g : Nat} {f : NameF} (h : MapIs w g f) (hb : Below w.heap.size w w') : MapIs w' g f := h.keep hb h.lt
theorem MapIs.alloc {w : World} {g : Nat} {f : NameF} (h : MapIs w g f) (o : Obj) : MapIs (w.alloc o) g f := h.of_eq (Below.heap_alloc w o g h.lt)
theorem MapIs.setRow {w : World} {g q : Nat} {f : NameF} (h : MapIs w g f) (hq : q ≠ g) (cs : Array Value) : MapIs (w.setRow q cs) g f := h.of_eq (setRow_other (Ne.symm hq) cs)
theorem MapIs.drew {w : World} {g : Nat} {f : NameF} (h : MapIs w g f) : MapIs w.drew g f := h
theorem MapIs.nil (w : World) : MapIs (w.alloc (.map #[] 0)) w.heap.size [] := ⟨#[], 0, heap_alloc_new w _, MapF.nil 0⟩
theorem setBlock_size (w : World) (g : Nat) (o : Obj) : (setBlock w g o).heap.size = w.heap.size := by simp [setBlock]
theorem setBlock_far {w : World} {g k : Nat} (h : k ≠ g) (o : Obj) : (setBlock w g o).heap[k]? = w.heap[k]? := by
  simp [setBlock, Array.getElem?_setIfInBounds, Ne.symm h]
theorem below_setBlock {B : Nat} {w w' : World} (h : Below B w w') {g : Nat} (hg : B ≤ g) (o : Obj) : Below B w (setBlock w' g o) :=
  ⟨h.os, h.tape, h.output, by rw [setBlock_size]; exact h.size, fun k hk => by rw [setBlock_far (by omega)]; exact h.block k hk⟩

theorem name66 : NameKey Tryz.prog 66 where
  und := ⟨_, Tryz.underlying66⟩
  chk := fun e a b w => by kernel_rfl
  eql := fun a b c d w => by
    unfold nameV
    simp [Op.equal, Op.maxDepth, go_sem, Tryz.underlying66]
    by_cases h1 : a = c <;> by_cases h2 : b = d <;> simp [*]
theorem und123 : Tryz.prog.underlying 123 = some (.map 66 68) := by kernel_rfl
theorem und122 : Tryz.prog.underlying 122 = some (.map 66 68) := by kernel_rfl

theorem map_update (n : NoteD) (v : Value) {mt : TypeId} (hm : Tryz.prog.underlying mt = some (.map 66 68)) {w : World} {g : Nat} {f : NameF} (h : MapIs w g f) :
    ∃ w', (Instr.mapUpdate mt (.map (some g)) (nameV n.house n.num) v).run Tryz.prog w = .ok () w' ∧ MapIs w' g (setF f n.name v) ∧ (∀ k, k ≠ g → w'.heap[k]? = w.heap[k]?) ∧ w'.heap.size = w.heap.size ∧ w'.os = w.os ∧ w'.tape = w.tape ∧ w'.output = w.output := by
  obtain ⟨es, c, hg, hf⟩ := h
  obtain ⟨es', c', h1, h2⟩ := run_updateF name66 hm n.house n.num v g es c w f hg hf
  refine ⟨_, h1, ⟨es', c', ?_, h2⟩, fun k hk => setBlock_far hk _, setBlock_size _ _ _, rfl, rfl, rfl⟩
  have := (Array.getElem?_eq_some_iff.1 hg).1
  simp [setBlock, this]

theorem findIx_append (k : Int × Int) : ∀ (f : NameF) (i : Nat), k ∉ f.map Prod.fst → findIx k f i = none := fun f i h => (findIx_none k f i).2 h
theorem setF_new {f : NameF} {k : Int × Int} {v : Value} (h : k ∉ f.map Prod.fst) : setF f k v = f ++ [(k, v)] := by
  unfold setF
  rw [findIx_append k f 0 h]

/-- A set of notes as a map. -/
def setFn (l : List NoteD) : NameF := l.map fun n => (n.name, .agg n.arr)
theorem setFn_keys (l : List NoteD) : (setFn l).map Prod.fst = l.map NoteD.name := by simp [setFn]

theorem setB_each {f : FrD} {l : List NoteD} (h : setB f l = true) : l.length ≤ 400 ∧ ∀ k, k < l.length → csOk f l k = true := by
  simp only [setB, Bool.and_eq_true, decide_eq_true_eq, List.all_eq_true, List.mem_range] at h
  exact h
theorem setB_formed {f : FrD} {l : List NoteD} (h : setB f l = true) : ∀ n ∈ l, formedB f n = true := by
  intro n hn
  obtain ⟨i, hi, rfl⟩ := List.getElem_of_mem hn
  have := (setB_each h).2 i hi
  simp only [csOk, Bool.and_eq_true, getD_get _ _ hi] at this
  exact this.1
theorem setB_rise {f : FrD} {l : List NoteD} (h : setB f l = true) : ∀ i j, i < j → j < l.length → nameLt (l.getD i note0).name (l.getD j note0).name := by
  intro i j hij
  induction j with
  | zero => omega
  | succ j ih =>
    intro hj
    have h1 := (setB_each h).2 (j + 1) hj
    simp only [csOk, Bool.and_eq_true, Bool.or_eq_true, decide_eq_true_eq] at h1
    have h2 : nameLt (l.getD j note0).name (l.getD (j + 1) note0).name := by
      rcases h1.2 with h1 | h1
      · omega
      · exact (cmpName_lt _ _).1 (by simpa using h1)
    rcases Nat.lt_or_ge i j with g | g
    · exact nameLt_trans (ih g (by omega)) h2
    · obtain rfl : i = j := by omega
      exact h2
theorem setB_nodup {f : FrD} {l : List NoteD} (h : setB f l = true) : (l.map NoteD.name).Nodup := by
  rw [List.nodup_iff_pairwise_ne, List.pairwise_iff_getElem]
  intro i j hi hj hij e
  simp only [List.length_map] at hi hj
  have := setB_rise h i j hij hj
  rw [getD_get _ _ hi, getD_get _ _ hj] at this
  simp only [List.getElem_map] at e
  rw [e] at this
  exact nameLt_irrefl _ this
theorem setFn_step {l : List NoteD} (hn : (l.map NoteD.name).Nodup) {k : Nat} (hk : k < l.length) : setF (setFn (l.take k)) (l.getD k note0).name (.agg (l.getD k note0).arr) = setFn (l.take (k + 1)) := by
  rw [setF_new]
  · rw [List.take_add_one, List.getElem?_eq_getElem hk, getD_get _ _ hk]
    unfold setFn
    rw [List.map_append]
    rfl
  · rw [setFn_keys]
    intro hm
    obtain ⟨x, hx, he⟩ := List.mem_map.1 hm
    obtain ⟨i, hi, rfl⟩ := List.getElem_of_mem hx
    rw [List.length_take] at hi
    rw [List.getElem_take, getD_get _ _ hk] at he
    have h5 : (l.map NoteD.name)[i]'(by simp; omega) = (l.map NoteD.name)[k]'(by simpa using hk) := by simpa using he
    have := (List.getElem_inj hn).1 h5
    omega
end Go.Proofs.YteihcodicfoiaaaGreat
namespace Go.Proofs.YteihcodicfoiaaaGreat
open Go.RowKit

def SetP (f : FrD) (l : List NoteD) (w : World) (e : Ending) (w' : World) : Prop :=
  Below w.heap.size w w' ∧ ((setB f l = true ∧ ∃ g, w.heap.size ≤ g ∧ MapIs w' g (setFn l) ∧ e = .returned (.tuple #[.map (some g), .bool true])) ∨ (setB f l = false ∧ e = .returned (.tuple #[.map none, .bool false])))

attribute [local go_sem] makeMap_run
attribute [local go_sem ↓] load_at68 load_run store_at68 store_run
set_option maxRecDepth 100000 in
set_option maxHeartbeats 8000000 in
theorem setOf_any (f : FrD) (hf : f.Ok) (A : Option Addr) (c : Nat) (l : List NoteD) (w : World) (hl : NotesAt w A l) (hn : l.length ≤ 9223372036854775807) (hs : ∀ n ∈ l, n.strokes.length ≤ 9223372036854775807) :
    Calls Tryz.prog 41 #[f.val, .slice A l.length c] w (SetP f l w) := by
  have HCS := Lib.hid (fun (X : World) (h : Below w.heap.size w X) => CheckSet_any f hf A c l X (hl.below h) hn hs)
  have HL := Lib.hid (fun (X : World) (h : Below w.heap.size w X) => hl.below h)
  unfold FrD.val at *
  obtain ⟨W, hW⟩ : ∃ W, (w.alloc (.cells #[.int .i64 f.rings, .int .i64 f.sec, .int .i64 f.wide] 45)) = W := ⟨_, rfl⟩
  have hbW : Below w.heap.size w W := by rw [← hW]; exact (Below.refl _ _).alloc (Nat.le_refl _) _
  have X := (show Bk W w.heap.size 45 #[.int .i64 f.rings, .int .i64 f.sec, .int .i64 f.wide] by rw [← hW]; exact bk_last rfl)
  have HW := Lib.hid hW
  have x0 := X.cell 0
  have x1 := X.cell 1
  have x2 := X.cell 2
  simp at x0 x1 x2
  have HC := Lib.hid (HCS.out W hbW)
  clear hW hl hs X
  go_enter Tryz.func41, Tryz.ntmps41
  go_upto_region 1 with fail
  rw [HW.out]
  clear HW
  go_wp2_with fail
  refine HC.out.mono ?_
  rintro e w1 ⟨hb1, ⟨hok, rfl⟩ | ⟨hno, n, i, hn0, rfl⟩⟩
  · have hB1 := hbW.trans (hb1.mono hbW.size)
    have HOK := Lib.hid hok
    have M0 := MapIs.nil w1
    have hB2 := hB1.alloc (by have := hB1.size; omega) (.map #[] 0)
    have hgs := hB1.size
    clear x0 x1 x2 HC HCS hok hb1 hbW
    go_wp2_with fail
    go_loopw [22] (fun i wr => ∃ k : Nat, k ≤ l.length ∧ i = .int .i64 k ∧ Below w.heap.size w wr ∧ MapIs wr w1.heap.size (setFn (l.take k))) (fun i _ => l.length - (intOf i).toNat)
    case atStart => exact ⟨0, Nat.zero_le _, rfl, hB2, M0⟩
    case round =>
      clear hB2 M0
      obtain ⟨k, hk, rfl, hB, M⟩ := hrel
      by_cases hlt : k < l.length
      · have hkI : (k : Int) < l.length := by omega
        obtain ⟨b5, o5, hA, hb5, hc5⟩ := note_load (HL.out wr hB) (by omega)
        have l0 := hc5 k hlt
        rw [hA]
        obtain ⟨q, hq⟩ : ∃ q, wr.heap.size = q := ⟨_, rfl⟩
        have hBq := hB.size
        have hbq : b5 < q := by omega
        have hMq := M.lt
        have s1 := storeN_eq (ty := 68) (cs := (l.getD k note0).arr) (bk_last (w := wr) (t := 68) (cs := #[.int .i64 0, .int .i64 0, .int .i64 0, .int .i64 0, .int .i64 0, .int .i64 0, .int .i64 0, .int .i64 0, .int .i64 0, .int .i64 0, .int .i64 0, .int .i64 0, .int .i64 0, .int .i64 0, .int .i64 0, .slice none 0 0, .int .i64 0, .int .i64 0, .int .i64 0]) hq) (by kernel_rfl) rfl (arr_one _)
        have Y : Bk ((wr.alloc (.cells #[.int .i64 0, .int .i64 0, .int .i64 0, .int .i64 0, .int .i64 0, .int .i64 0, .int .i64 0, .int .i64 0, .int .i64 0, .int .i64 0, .int .i64 0, .int .i64 0, .int .i64 0, .int .i64 0, .int .i64 0, .slice none 0 0, .int .i64 0, .int .i64 0, .int .i64 0] 68)).setRow q (l.getD k note0).arr) q 68 (l.getD k note0).arr := setRow_at (bk_last hq) _
        have M2 := (M.alloc (.cells #[.int .i64 0, .int .i64 0, .int .i64 0, .int .i64 0, .int .i64 0, .int .i64 0, .int .i64 0, .int .i64 0, .int .i64 0, .int .i64 0, .int .i64 0, .int .i64 0, .int .i64 0, .int .i64 0, .int .i64 0, .slice none 0 0, .int .i64 0, .int .i64 0, .int .i64 0] 68)).setRow (q := q) (by omega) (l.getD k note0).arr
        have hB2 : Below w.heap.size w ((wr.alloc (.cells #[.int .i64 0, .int .i64 0, .int .i64 0, .int .i64 0, .int .i64 0, .int .i64 0, .int .i64 0, .int .i64 0, .int .i64 0, .int .i64 0, .int .i64 0, .int .i64 0, .int .i64 0, .int .i64 0, .int .i64 0, .slice none 0 0, .int .i64 0, .int .i64 0, .int .i64 0] 68)).setRow q (l.getD k note0).arr) := below_setRow (hB.alloc (by omega) _) (by omega) _
        have HK := Lib.hid (And.intro Y (And.intro M2 hB2))
        have hqg : q ≠ w1.heap.size := by omega
        have HST := Lib.hid (setFn_step (setB_nodup HOK.out) hlt)
        clear Y M M2 hB2 hB hA
        generalize hng : l.getD k note0 = n at *
        clear hng hc5
        go_upto_region 8 with fail
        clear s1 hq l0
        generalize (wr.alloc _).setRow q _ = V at *
        obtain ⟨Y, M, hB⟩ := HK.out
        clear HK
        have ln : loadN 68 (.pointer (some ⟨q, 0, none⟩)) V.drew = .ok (.agg n.arr) V.drew := load68_eq n Y.drew
        have HYM := Lib.hid (show Bk V.drew q 68 n.arr ∧ MapIs V.drew w1.heap.size (setFn (l.take k)) ∧ Below w.heap.size w V.drew from ⟨Y.drew, M, hB.drew⟩)
        have HNN := Lib.hid (nameOf_any n V.drew)
        clear Y M hB
        go_region_held3 (fun w' => loadN 68 (.pointer (some ⟨q, 0, none⟩)) w' = .ok (.agg n.arr) w') (first | exact ln | exact ln2 | exact ln3)
          (first
          | (go_at_call 73; refine HNN.out.mono ?_; rintro e w2 ⟨rfl, hb2⟩; have ln2 := load68_eq n (HYM.out.1.keep hb2); obtain ⟨w3, hup, M3, far3, sz3, os3, tp3, ou3⟩ := map_update n (.agg n.arr) und123 (HYM.out.2.1.below hb2); have ln3 := load68_eq n (show Bk w3 q 68 n.arr from (far3 q hqg).trans (HYM.out.1.keep hb2)); unfold nameV at *))
        have hB3 : Below w.heap.size w w3 := by
          have h := HYM.out.2.2.trans (hb2.mono HYM.out.2.2.size)
          exact ⟨os3.trans h.os, tp3.trans h.tape, ou3.trans h.output, by rw [sz3]; exact h.size, fun i hi => (far3 i (by omega)).trans (h.block i hi)⟩
        rw [HST.out] at M3
        clear ln ln2 ln3 hup far3 sz3 os3 tp3 ou3 hb2 HYM HNN HST
        go_wp2_with fail
        go_roundw
        case rel => exact ⟨k + 1, by omega, by go_num, hB3, M3⟩
        case measure => simp [intOf]; omega
      · have hkI : ¬ (k : Int) < l.length := by omega
        obtain rfl : k = l.length := by omega
        rw [List.take_length] at M
        go_wp2_with fail
        go_ret2
        exact ⟨hB, .inl ⟨HOK.out, _, hgs, M, rfl⟩⟩
  · have hB1 := hbW.trans (hb1.mono hbW.size)
    have HNO := Lib.hid hno
    have hnb : (n == 0) = false := by simpa using hn0
    clear x0 x1 x2 HC HCS hno hb1 hbW hn0
    go_wp2_with fail
    go_ret2
    exact ⟨hB1, .inr ⟨HNO.out, rfl⟩⟩
end Go.Proofs.YteihcodicfoiaaaGreat
namespace Go.Proofs.YteihcodicfoiaaaGreat
open Go.RowKit
open Go.ChangeMaps (setBlock)

/-- How many entries a range has before it. -/
def restN (w : World) (r : Nat) : Nat := match w.heap[r]? with
  | some (.mapIter (some bm) _ seen _) => (match w.heap[bm]? with
    | some (.map es _) => (leftOf es seen).size
    | _ => 0)
  | _ => 0
theorem RangeF.rest {w : World} {r bm : Nat} {f D : NameF} (h : RangeF w r bm f D) : D.length + restN w r = f.length := by
  obtain ⟨es, clock, since, seen, c0, hr, hb, hi, _, _, _, ds, rfl, hp⟩ := h
  have hlen := hp.length_eq
  have hfl : f.length = es.toList.length := by rw [← hi.entF]; simp
  unfold restN
  rw [hr]
  simp only
  rw [hb]
  simp only
  rw [List.length_append] at hlen
  rw [List.length_map, hfl]
  simpa using hlen
theorem RangeF.lt {w : World} {r bm : Nat} {f D : NameF} (h : RangeF w r bm f D) : r < w.heap.size ∧ bm < w.heap.size := by
  obtain ⟨es, clock, since, seen, c0, hr, hb, _⟩ := h
  exact ⟨(Array.getElem?_eq_some_iff.1 hr).1, (Array.getElem?_eq_some_iff.1 hb).1⟩
theorem RangeF.below {w w' : World} {r bm : Nat} {f D : NameF} (h : RangeF w r bm f D) (hb : Below w.heap.size w w') : RangeF w' r bm f D := h.keep (hb.block r h.lt.1) (hb.block bm h.lt.2)
theorem RangeF.map {w : World} {r bm : Nat} {f D : NameF} (h : RangeF w r bm f D) : MapIs w bm f := by
  obtain ⟨es, clock, since, seen, c0, hr, hb, hm, _⟩ := h
  exact ⟨es, clock, hb, hm⟩

theorem range_start {mt : TypeId} (hm : Tryz.prog.underlying mt = some (.map 66 68)) {w : World} {g : Nat} {f : NameF} (h : MapIs w g f) :
    ∃ w', (Instr.range mt (.map (some g))).run Tryz.prog w = .ok (.pointer (some ⟨w.heap.size, 0, none⟩)) w' ∧ RangeF w' w.heap.size g f [] ∧ Below w.heap.size w w' := by
  obtain ⟨es, c, hg, hf⟩ := h
  exact ⟨_, run_range_map w mt 66 68 g es c hm hg, RangeF.start hg hf, (Below.refl _ _).alloc (Nat.le_refl _) _⟩
theorem range_next {w : World} {r g : Nat} {f D : NameF} (h : RangeF w r g f D) (hne : g ≠ r) :
    (D.Perm f ∧ ∀ ty, (Instr.next (.pointer (some ⟨r, 0, none⟩)) false ty).run Tryz.prog w = .ok (.tuple #[.bool false]) w) ∨
    ∃ (k : Int × Int) (v : Value) (w' : World), (k, v) ∈ f ∧ (∀ ty, (Instr.next (.pointer (some ⟨r, 0, none⟩)) false ty).run Tryz.prog w = .ok (.tuple #[.bool true, .agg #[.int .i64 k.1, .int .i64 k.2], v]) w') ∧ RangeF w' r g f (D ++ [(k, v)]) ∧ Below r w w' ∧ (∀ q, q ≠ r → w'.heap[q]? = w.heap[q]?) ∧
      (Instr.entry (.pointer (some ⟨r, 0, none⟩))).run Tryz.prog w' = .ok (.tuple #[.agg #[.int .i64 k.1, .int .i64 k.2], v]) w' := by
  rcases RangeF.next (P := Tryz.prog) h hne 0 with ⟨h1, h2⟩ | ⟨k, v, w1, w', h1, h2, h3, ⟨o, h4⟩, h5, h6, h7⟩
  · exact .inl ⟨h1, fun ty => h2⟩
  · refine .inr ⟨k, v, w', h1, fun ty => h5, h6, ?_, ?_, h7⟩
    · subst h4
      rcases h3 with rfl | rfl
      · exact ⟨rfl, rfl, rfl, by rw [setBlock_size]; exact Nat.le_refl _, fun i hi => setBlock_far (by omega) _⟩
      · exact below_setBlock (Below.refl r w).drew (Nat.le_refl _) _
    · intro q hq
      subst h4
      rcases h3 with rfl | rfl
      · exact setBlock_far hq _
      · exact setBlock_far hq _

set_option maxRecDepth 100000 in
set_option maxHeartbeats 1000000 in
theorem asof1_any (n : NoteD) (a b : Int) (m : Int) (p : Nat) (t : TypeId) (w : World) (hp : Bk w p t #[.int .i64 m]) :
    Calls Tryz.prog 43 #[.agg #[.int .i64 a, .int .i64 b], .agg n.arr, .pointer (some ⟨p, 0, none⟩)] w fun e w' => e = .returned (.bool (decide (n.clock > m))) ∧ Below w.heap.size w w' := by
  obtain ⟨W, hW⟩ : ∃ W, (w.alloc (.cells #[.int .i64 a, .int .i64 b] 66)).alloc (.cells n.arr 68) = W := ⟨_, rfl⟩
  have hbW : Below w.heap.size w W := by rw [← hW]; exact ((Below.refl _ _).alloc (Nat.le_refl _) _).alloc (by simp) _
  have X := (show Bk W (w.heap.size + 1) 68 n.arr by rw [← hW]; exact bk_last (by simp))
  have p0 := (hp.keep hbW).cell 0
  have x2 := X.cell 2
  simp [NoteD.arr] at x2 p0
  have HW := Lib.hid hW
  clear hW X hp
  go_enter Tryz.func43, Tryz.ntmps43
  go_upto_region 1 with fail
  rw [HW.out]
  clear HW
  go_wp2_with fail
  go_ret
  exact ⟨rfl, hbW⟩

attribute [local go_sem ↓] load_at68 load_run store_at68 store_run
set_option maxRecDepth 100000 in
set_option maxHeartbeats 4000000 in
theorem delete_any (l : List NoteD) (m : Int) (p g : Nat) (t : TypeId) (w : World) (hp : Bk w p t #[.int .i64 m]) (hm : MapIs w g (setFn l)) (hc : ∀ n ∈ l, ¬ n.clock > m) :
    Calls Tryz.prog 42 #[.map (some g), .func (.func 43) #[] #[.pointer (some ⟨p, 0, none⟩)]] w fun e w' => e = .returned (.tuple #[]) ∧ Below w.heap.size w w' := by
  obtain ⟨w1, hrun, R, hB⟩ := range_start und123 hm
  have hglt := hm.lt
  have HP := Lib.hid hp
  have HC := Lib.hid hc
  clear hm hp hc
  go_enter Tryz.func42, Tryz.ntmps42
  go_upto_region 1 with fail
  clear hrun
  go_loopw [8] (fun _ wr => ∃ D, RangeF wr w.heap.size g (setFn l) D ∧ Below w.heap.size w wr) (fun _ wr => restN wr w.heap.size)
  case atStart => exact ⟨[], R, hB⟩
  case round =>
    clear R hB
    obtain ⟨D, R, hB⟩ := hrel
    rcases range_next R (by omega) with ⟨_, hnx⟩ | ⟨k, v, w2, hmem, hnx, R2, hb2, far2, hent⟩
    · clear R
      go_wp2_with fail
      exact bodyPost_end (results_none rfl _ _ _) rfl ⟨rfl, hB⟩
    · have hB2 := hB.trans hb2
      clear hb2 far2
      obtain ⟨n, hn, hkv⟩ := List.mem_map.1 hmem
      injection hkv with hk hv
      obtain ⟨k1, k2⟩ := k
      unfold NoteD.name at hk
      injection hk with h1 h2
      subst h1
      subst h2
      subst hv
      have e1 := R.rest
      have e2 := R2.rest
      have hrest : restN w2 w.heap.size < restN wr w.heap.size := by rw [List.length_append] at e2; simp at e2; omega
      clear R e1 e2 hmem
      obtain ⟨q, hq⟩ : ∃ q, w2.heap.size = q := ⟨_, rfl⟩
      have hq1 : (w2.alloc (.cells #[.int .i64 n.house, .int .i64 n.num] 66)).heap.size = q + 1 := by simp [hq]
      have hBq := hB2.size
      have s1 := storeN_eq (ty := 68) (cs := n.arr) (bk_last (t := 68) (cs := #[.int .i64 0, .int .i64 0, .int .i64 0, .int .i64 0, .int .i64 0, .int .i64 0, .int .i64 0, .int .i64 0, .int .i64 0, .int .i64 0, .int .i64 0, .int .i64 0, .int .i64 0, .int .i64 0, .int .i64 0, .slice none 0 0, .int .i64 0, .int .i64 0, .int .i64 0]) hq1) (by kernel_rfl) rfl (arr_one _)
      have Y : Bk (((w2.alloc (.cells #[.int .i64 n.house, .int .i64 n.num] 66)).alloc (.cells #[.int .i64 0, .int .i64 0, .int .i64 0, .int .i64 0, .int .i64 0, .int .i64 0, .int .i64 0, .int .i64 0, .int .i64 0, .int .i64 0, .int .i64 0, .int .i64 0, .int .i64 0, .int .i64 0, .int .i64 0, .slice none 0 0, .int .i64 0, .int .i64 0, .int .i64 0] 68)).setRow (q + 1) n.arr) (q + 1) 68 n.arr := setRow_at (bk_last hq1) _
      have N : Bk (((w2.alloc (.cells #[.int .i64 n.house, .int .i64 n.num] 66)).alloc (.cells #[.int .i64 0, .int .i64 0, .int .i64 0, .int .i64 0, .int .i64 0, .int .i64 0, .int .i64 0, .int .i64 0, .int .i64 0, .int .i64 0, .int .i64 0, .int .i64 0, .int .i64 0, .int .i64 0, .int .i64 0, .slice none 0 0, .int .i64 0, .int .i64 0, .int .i64 0] 68)).setRow (q + 1) n.arr) q 66 #[.int .i64 n.house, .int .i64 n.num] := ((bk_last hq).alloc _).farRow (by omega) _
      have hB3 : Below w2.heap.size w2 (((w2.alloc (.cells #[.int .i64 n.house, .int .i64 n.num] 66)).alloc (.cells #[.int .i64 0, .int .i64 0, .int .i64 0, .int .i64 0, .int .i64 0, .int .i64 0, .int .i64 0, .int .i64 0, .int .i64 0, .int .i64 0, .int .i64 0, .int .i64 0, .int .i64 0, .int .i64 0, .int .i64 0, .slice none 0 0, .int .i64 0, .int .i64 0, .int .i64 0] 68)).setRow (q + 1) n.arr) := below_setRow (((Below.refl _ _).alloc (Nat.le_refl _) _).alloc (by simp) _) (by omega) _
      have R3 := R2.below hB3
      have HREST : Hid (restN (((w2.alloc (.cells #[.int .i64 n.house, .int .i64 n.num] 66)).alloc (.cells #[.int .i64 0, .int .i64 0, .int .i64 0, .int .i64 0, .int .i64 0, .int .i64 0, .int .i64 0, .int .i64 0, .int .i64 0, .int .i64 0, .int .i64 0, .int .i64 0, .int .i64 0, .int .i64 0, .int .i64 0, .slice none 0 0, .int .i64 0, .int .i64 0, .int .i64 0] 68)).setRow (q + 1) n.arr) w.heap.size < restN wr w.heap.size) := by
        have e1 := R2.rest
        have e2 := R3.rest
        exact Lib.hid (by omega)
      have hB4 := hB2.trans (hB3.mono hBq)
      have HK := Lib.hid (And.intro R3 hB4)
      have HCL := Lib.hid (asof1_any n n.house n.num m p t (((w2.alloc (.cells #[.int .i64 n.house, .int .i64 n.num] 66)).alloc (.cells #[.int .i64 0, .int .i64 0, .int .i64 0, .int .i64 0, .int .i64 0, .int .i64 0, .int .i64 0, .int .i64 0, .int .i64 0, .int .i64 0, .int .i64 0, .int .i64 0, .int .i64 0, .int .i64 0, .int .i64 0, .slice none 0 0, .int .i64 0, .int .i64 0, .int .i64 0] 68)).setRow (q + 1) n.arr) (HP.out.keep hB4))
      have hcl : decide (n.clock > m) = false := decide_eq_false (by have := HC.out n hn; omega)
      rw [hcl] at HCL
      have ln := load68_eq n Y
      have n0 := N.cell 0
      have n1 := N.cell 1
      simp at n0 n1
      clear hB2 R2 hrest hB3 R3 hB4 Y N hcl
      go_upto_region 3 with fail
      clear s1 hnx hent hq hq1
      generalize ((w2.alloc _).alloc _).setRow _ _ = V at *
      go_wp2_with fail
      refine HCL.out.mono ?_
      rintro e w3 ⟨rfl, hb3⟩
      obtain ⟨R, hB⟩ := HK.out
      have R3 := R.below hb3
      have hB3 := hB.trans (hb3.mono hB.size)
      have HR3 : Hid (restN w3 w.heap.size < restN wr w.heap.size) := by
        have e1 := R.rest
        have e2 := R3.rest
        have := HREST.out
        exact Lib.hid (by omega)
      clear n0 n1 ln HK HCL HREST R hB hb3
      go_wp2_with fail
      go_roundw
      case rel => exact ⟨_, R3, hB3⟩
      case measure => exact HR3.out
end Go.Proofs.YteihcodicfoiaaaGreat
namespace Go.Proofs.YteihcodicfoiaaaGreat
open Go.RowKit

/-- A note without the place of its strokes. -/
def NoteD.plain (n : NoteD) : NoteD := { n with sA := none, sc := 0 }

theorem RowAt.of_heap {w w' : World} {A : Option Addr} {xs : List Value} (h : RowAt w A xs) (he : ∀ a, A = some a → w'.heap[a.block]? = w.heap[a.block]?) (hs : w.heap.size ≤ w'.heap.size) : RowAt w' A xs := fun h0 => by
  obtain ⟨b, off, rfl, h1, h2⟩ := h h0
  have := he _ rfl
  refine ⟨b, off, rfl, by omega, fun j u hu => ?_⟩
  have h3 := h2 j u hu
  simp only [World.cell?] at h3 ⊢
  rw [this]
  exact h3
theorem own_lt {w : World} {base : Nat} {e : TypeId} {size n m c : Nat} {A : Option Addr} {xs : List Value} (h : w.ownsRow base e size (.slice A m c) n xs) : ∀ a, A = some a → base ≤ a.block ∧ a.block < w.heap.size := by
  rintro a rfl
  rcases h.2 with ⟨hv, _⟩ | ⟨g, cap, cur, hv, hb, hg, _⟩
  · cases hv
  · injection hv with hv
    injection hv with hv
    subst hv
    exact ⟨hb, (Array.getElem?_eq_some_iff.1 hg).1⟩
/-- The strokes lie in a block of ints. -/
def NoteD.StrT (n : NoteD) (w : World) : Prop := ∀ a, n.sA = some a → ∃ cs, Bk w a.block 3 cs
theorem NoteD.StrT.of_heap {n : NoteD} {w w' : World} (h : n.StrT w) (he : ∀ a, n.sA = some a → w'.heap[a.block]? = w.heap[a.block]?) : n.StrT w' := fun a ha => by
  obtain ⟨cs, hc⟩ := h a ha
  exact ⟨cs, (he a ha).trans hc⟩
theorem own_ty {w : World} {base : Nat} {e : TypeId} {size n m c : Nat} {A : Option Addr} {xs : List Value} (h : w.ownsRow base e size (.slice A m c) n xs) : ∀ a, A = some a → ∃ cs, Bk w a.block e cs := by
  rintro a rfl
  rcases h.2 with ⟨hv, _⟩ | ⟨g, cap, cur, hv, hb, hg, _⟩
  · cases hv
  · injection hv with hv
    injection hv with hv
    subst hv
    exact ⟨cur, hg⟩
theorem clone_ints_new (A : Option Addr) (c n : Nat) (xs : List Value) (w : World) (hn : n ≤ 65536) (hl : xs.length = n * 1) (h1 : oneCells xs) (hx : RowAt w A xs) :
    Calls Tryz.prog 111 #[.slice A n c] w fun e w' => (∃ A c, e = .returned (.slice A n c) ∧ RowAt w' A xs ∧ (∀ a, A = some a → w.heap.size ≤ a.block ∧ a.block < w'.heap.size) ∧ ∀ a, A = some a → ∃ cs, Bk w' a.block 3 cs) ∧ Below w.heap.size w w' := by
  by_cases h0 : 0 < n
  · obtain ⟨b, off, rfl, hr⟩ := hx.some_ (by omega)
    refine (clone_ints_some b off c n xs w hn hl h1 hr).mono ?_
    rintro e w' ⟨v, rfl, hown, hb⟩
    obtain ⟨A', c', rfl, _, h3, h4⟩ := own_form hown
    exact ⟨⟨A', c', rfl, h3, own_lt hown, own_ty hown⟩, hb⟩
  · obtain rfl : n = 0 := by omega
    obtain rfl : xs = [] := List.eq_nil_of_length_eq_zero (by omega)
    cases A with
    | none =>
      refine (clone_ints_nil' c w).mono ?_
      rintro e w' ⟨rfl, rfl⟩
      exact ⟨⟨none, 0, rfl, (fun h => by simp at h), (fun a h => by cases h), (fun a h => by cases h)⟩, Below.refl _ _⟩
    | some a =>
      refine (clone_ints_zero a c w).mono ?_
      rintro e w' ⟨v, rfl, hown, hb⟩
      obtain ⟨A', c', rfl, _, h3, _⟩ := own_form hown
      exact ⟨⟨A', c', rfl, h3, own_lt hown, own_ty hown⟩, hb⟩
attribute [local go_sem ↓] load_at68 load_run store_at68 store_run
set_option maxRecDepth 100000 in
set_option maxHeartbeats 2000000 in
theorem copied_any (n : NoteD) (w : World) (h : n.At w) (hn : n.strokes.length ≤ 65536) :
    Calls Tryz.prog 134 #[.agg n.arr] w fun e w' => (∃ n' : NoteD, n'.plain = n.plain ∧ n'.At w' ∧ (∀ a, n'.sA = some a → w.heap.size ≤ a.block ∧ a.block < w'.heap.size) ∧ n'.StrT w' ∧ e = .returned (.agg n'.arr)) ∧ Below w.heap.size w w' := by
  obtain ⟨W, hW⟩ : ∃ W, (w.alloc (.cells n.arr 68)).alloc (.cells #[.int .i64 0, .int .i64 0, .int .i64 0, .int .i64 0, .int .i64 0, .int .i64 0, .int .i64 0, .int .i64 0, .int .i64 0, .int .i64 0, .int .i64 0, .int .i64 0, .int .i64 0, .int .i64 0, .int .i64 0, .slice none 0 0, .int .i64 0, .int .i64 0, .int .i64 0] 68) = W := ⟨_, rfl⟩
  have hbW : Below w.heap.size w W := by rw [← hW]; exact ((Below.refl _ _).alloc (Nat.le_refl _) _).alloc (by simp) _
  have X := (show Bk W w.heap.size 68 n.arr by rw [← hW]; exact (bk_last rfl).alloc _)
  have Y := (show Bk W (w.heap.size + 1) 68 #[.int .i64 0, .int .i64 0, .int .i64 0, .int .i64 0, .int .i64 0, .int .i64 0, .int .i64 0, .int .i64 0, .int .i64 0, .int .i64 0, .int .i64 0, .int .i64 0, .int .i64 0, .int .i64 0, .int .i64 0, .slice none 0 0, .int .i64 0, .int .i64 0, .int .i64 0] by rw [← hW]; exact bk_last (by simp))
  have x15 := X.cell 15
  simp [NoteD.arr] at x15
  have HC := Lib.hid (clone_ints_new n.sA n.sc n.strokes.length (intCells n.strokes) W hn (by simp [intCells]) (intCells_one _) (RowAt.below h hbW))
  have HW := Lib.hid hW
  have HX := Lib.hid (And.intro X Y)
  clear hW X Y h
  go_enter Tryz.func134, Tryz.ntmps134
  go_upto_region 1 with fail
  rw [HW.out]
  clear HW
  have hx15 := (HX.out.1).fz 15
  go_wp2_with fail
  refine HC.out.mono ?_
  rintro e w1 ⟨⟨A, c, rfl, r1, g1, t1⟩, hb1⟩
  obtain ⟨n', hn'⟩ : ∃ n' : NoteD, n' = { n with sA := A, sc := c } := ⟨_, rfl⟩
  have hlt := HX.out.1.lt
  have hlt2 := HX.out.2.lt
  have X1 : Bk (w1.setCell ⟨w.heap.size, 15, none⟩ (.slice A n.strokes.length c)) w.heap.size 68 n'.arr := by rw [hn']; exact (HX.out.1.keep hb1).put 15 (.slice A n.strokes.length c)
  have Y1 := (HX.out.2.keep hb1).far (p := ⟨w.heap.size, 15, none⟩) (by simp) (.slice A n.strokes.length c)
  have hx15' := (HX.out.1.keep hb1).fz 15
  have hx15c := (HX.out.1.keep hb1).cell 15
  simp [NoteD.arr] at hx15c
  have l1 := load68_eq n' X1
  have s1 := storeN_eq (ty := 68) (cs := n'.arr) Y1 (by kernel_rfl) rfl (arr_one _)
  have R1 : RowAt (w1.setCell ⟨w.heap.size, 15, none⟩ (.slice A n.strokes.length c)) n'.sA (intCells n'.strokes) := by
    rw [hn']
    exact r1.farA (fun a ha => by have := (g1 a ha).1; simp; omega) _
  have G1 : ∀ a, n'.sA = some a → a.block ≠ w.heap.size + 1 := by
    intro a ha
    rw [hn'] at ha
    have := (g1 a ha).1
    omega
  have Y2 : Bk ((w1.setCell ⟨w.heap.size, 15, none⟩ (.slice A n.strokes.length c)).setRow (w.heap.size + 1) n'.arr) (w.heap.size + 1) 68 n'.arr := setRow_at Y1 _
  have R2 : RowAt ((w1.setCell ⟨w.heap.size, 15, none⟩ (.slice A n.strokes.length c)).setRow (w.heap.size + 1) n'.arr) n'.sA (intCells n'.strokes) := R1.of_heap (fun a ha => setRow_other (G1 a ha) _) (by rw [setRow_size]; exact Nat.le_refl _)
  have hB1 := hbW.trans (hb1.mono hbW.size)
  have hB2 : Below w.heap.size w ((w1.setCell ⟨w.heap.size, 15, none⟩ (.slice A n.strokes.length c)).setRow (w.heap.size + 1) n'.arr) := below_setRow (hB1.setCell (p := ⟨w.heap.size, 15, none⟩) (by simp) _) (by omega) _
  have hsz1 := hb1.size
  have G2 : ∀ a, n'.sA = some a → w.heap.size ≤ a.block ∧ a.block < ((w1.setCell ⟨w.heap.size, 15, none⟩ (.slice A n.strokes.length c)).setRow (w.heap.size + 1) n'.arr).heap.size := by
    intro a ha
    rw [hn'] at ha
    have := g1 a ha
    rw [setRow_size]
    simp
    omega
  have T2 : n'.StrT ((w1.setCell ⟨w.heap.size, 15, none⟩ (.slice A n.strokes.length c)).setRow (w.heap.size + 1) n'.arr) := fun a ha => by
    have g2 := G1 a ha
    rw [hn'] at ha
    obtain ⟨cs, hc⟩ := t1 a ha
    have g3 := (g1 a ha).1
    exact ⟨cs, (setRow_other g2 _).trans (hc.far (p := ⟨w.heap.size, 15, none⟩) (by simp; omega) _)⟩
  have HALL := Lib.hid (And.intro (show n'.plain = n.plain by rw [hn']; rfl) (And.intro (And.intro R2 (And.intro G2 T2)) (And.intro hB2 Y2)))
  clear hn' R2 G2 T2 t1 hB2 Y2 R1 G1 X1 Y1 r1 g1 hb1 hB1 HX hx15 HC x15 hbW
  go_wp2_with fail
  obtain ⟨hpl, ⟨R2, G2, T2⟩, hB2, Y2⟩ := HALL.out
  refine bodyPost_ret (v := .agg n'.arr) (results_cell_row rfl _ _ _ 68 _ (0, 0) _ rfl Y2 Tryz.underlying68 rfl (by kernel_rfl)) rfl ?_
  exact ⟨⟨n', hpl, R2, G2, T2, rfl⟩, hB2⟩

set_option maxRecDepth 100000 in
set_option maxHeartbeats 2000000 in
theorem judges_any (x r : NoteD) (w : World) :
    Calls Tryz.prog 85 #[.agg x.arr, .agg r.arr] w fun e w' => e = .returned (.bool (judgesB x r)) ∧ Below w.heap.size w w' := by
  obtain ⟨W, hW⟩ : ∃ W, (w.alloc (.cells x.arr 68)).alloc (.cells r.arr 68) = W := ⟨_, rfl⟩
  have hbW : Below w.heap.size w W := by rw [← hW]; exact ((Below.refl _ _).alloc (Nat.le_refl _) _).alloc (by simp) _
  have X := (show Bk W w.heap.size 68 x.arr by rw [← hW]; exact (bk_last rfl).alloc _)
  have Y := (show Bk W (w.heap.size + 1) 68 r.arr by rw [← hW]; exact bk_last (by simp))
  have x4 := X.cell 4
  have x18 := X.cell 18
  have y4 := Y.cell 4
  simp [NoteD.arr] at x4 x18 y4
  have HW := Lib.hid hW
  clear hW X Y
  by_cases h6 : x.kind = 6
  · have b6 : (x.kind == 6) = true := by simpa using h6
    go_enter Tryz.func85, Tryz.ntmps85
    go_upto_region 1 with fail
    rw [HW.out]
    clear HW
    go_wp2_with fail
    go_ret
    exact ⟨ret_bool (by simp [judgesB, *]), hbW⟩
  · have b6 : (x.kind == 6) = false := by simpa using h6
    by_cases h5 : x.kind = 5
    · have b5 : (x.kind == 5) = true := by simpa using h5
      by_cases h2 : x.fix = 2
      · have b2 : (x.fix == 2) = true := by simpa using h2
        go_enter Tryz.func85, Tryz.ntmps85
        go_upto_region 1 with fail
        rw [HW.out]
        clear HW
        go_wp2_with fail
        go_ret
        exact ⟨ret_bool (by simp [judgesB, *]), hbW⟩
      · have b2 : (x.fix == 2) = false := by simpa using h2
        go_enter Tryz.func85, Tryz.ntmps85
        go_upto_region 1 with fail
        rw [HW.out]
        clear HW
        go_wp2_with fail
        go_ret
        exact ⟨ret_bool (by simp [judgesB, *]), hbW⟩
    · have b5 : (x.kind == 5) = false := by simpa using h5
      go_enter Tryz.func85, Tryz.ntmps85
      go_upto_region 1 with fail
      rw [HW.out]
      clear HW
      go_wp2_with fail
      go_ret
      exact ⟨ret_bool (by simp [judgesB, *]), hbW⟩
end Go.Proofs.YteihcodicfoiaaaGreat
