/-
  What is proved: events under way: what the memory holds, and how a round changes it.
  What is proved: a slice of one element is built in one step.
  What is proved: the contract of events.
-/
import Derived.Test.YteihcodicfoiaaaGreatSortLMw
import Derived.Test.YteihcodicfoiaaaGreatSitMw
import Derived.Test.YteihcodicfoiaaaGreatMw21
import Derived.Test.YteihcodicfoiaaaGreatMw7
namespace Go.Proofs.YteihcodicfoiaaaGreat
open Go.RowKit

structure EvI (w : World) (g : Nat) (F D : NameF) (L : List NoteD) (A : Option Addr) (c : Nat) (V : World) : Prop where
  rg : RangeF V (w.heap.size + 1) g F D
  bl : Below w.heap.size w V
  bx : Bk V w.heap.size 42 #[.slice A L.length c]
  ow : V.ownsRow (w.heap.size + 2) 68 19 (.slice A L.length c) L.length (noteCells L)
  st : ∀ n ∈ L, n.At V ∧ n.StrT V
section
variable {w : World} {g : Nat} {F D D' : NameF} {L : List NoteD} {A : Option Addr} {c : Nat} {V V' : World}
theorem StrT.lt {n : NoteD} (h : n.StrT V) : ∀ a, n.sA = some a → a.block < V.heap.size := fun a ha => by
  obtain ⟨cs, hc⟩ := h a ha
  exact hc.lt
theorem StrT.below {n : NoteD} (h : n.StrT V) (hb : Below V.heap.size V V') : n.StrT V' := h.of_heap fun a ha => hb.block _ (StrT.lt h a ha)
theorem EvI.below (h : EvI w g F D L A c V) (hb : Below V.heap.size V V') : EvI w g F D L A c V' :=
  ⟨h.rg.below hb, h.bl.trans (hb.mono h.bl.size), h.bx.keep hb, own_keep h.ow hb, fun n hn => ⟨(h.st n hn).1.below hb, StrT.below (h.st n hn).2 hb⟩⟩
theorem EvI.drew (h : EvI w g F D L A c V) : EvI w g F D L A c V.drew := h.below (Below.refl _ V).drew
theorem range_notcells {r bm : Nat} {f : NameF} (h : RangeF V r bm f D) {t : TypeId} {cs : Array Value} (hb : Bk V r t cs) : False := by
  obtain ⟨es, clock, since, seen, c0, hr, _⟩ := h
  have := hr.symm.trans hb
  simp at this
theorem str_keep {n : NoteD} (h : n.At V ∧ n.StrT V) (he : ∀ q t cs, Bk V q t cs → t = 3 → V'.heap[q]? = V.heap[q]?) (hs : V.heap.size ≤ V'.heap.size) : n.At V' ∧ n.StrT V' := by
  have he' : ∀ a, n.sA = some a → V'.heap[a.block]? = V.heap[a.block]? := fun a ha => by
    obtain ⟨cs, hc⟩ := h.2 a ha
    exact he _ _ _ hc rfl
  exact ⟨RowAt.of_heap h.1 he' hs, h.2.of_heap he'⟩
theorem EvI.step (h : EvI w g F D L A c V) (hr : RangeF V' (w.heap.size + 1) g F D') (hb : Below (w.heap.size + 1) V V') (hf : ∀ q, q ≠ w.heap.size + 1 → V'.heap[q]? = V.heap[q]?) : EvI w g F D' L A c V' :=
  ⟨hr, h.bl.trans (hb.mono (by omega)), (hf _ (by omega)).trans h.bx, h.ow.kept (row := some (w.heap.size + 1)) ⟨hb.os, hb.tape, hb.output, hb.size, fun i _ hne => hf i (fun e => hne (by rw [e]))⟩ (by
    cases hv : (Value.slice A L.length c).ownBlock with
    | none => exact .inl rfl
    | some b => exact .inr (fun e => by injection e with e; have := (h.ow.lt b hv).1; omega)),
   fun n hn => str_keep (h.st n hn) (fun q t cs hq ht => hf q (fun e => by subst e; exact range_notcells h.rg hq)) hb.size⟩
theorem own_notT {base : Nat} {e t : TypeId} {size k : Nat} {v : Value} {xs : List Value} (h : V.ownsRow base e size v k xs) {q : Nat} {cs : Array Value} (hq : Bk V q t cs) (hne : t ≠ e) : some q ≠ v.ownBlock := fun e1 => by
  obtain ⟨cs', hcs⟩ := own_type h e1.symm
  have := hcs.symm.trans hq
  simp at this
  exact hne this.2.symm
theorem noteCells_snoc (L : List NoteD) (x : NoteD) : noteCells (L ++ [x]) = noteCells L ++ x.arr.toList := by simp [noteCells]
theorem EvI.push (h : EvI w g F D L A c V) {x : NoteD} (hx : x.At V ∧ x.StrT V) {A' : Option Addr} {c' : Nat} (hown : V'.ownsRow (w.heap.size + 2) 68 19 (.slice A' (L.length + 1) c') (L.length + 1) (noteCells L ++ x.arr.toList)) (hg : V.grownBy V' (Value.slice A L.length c).ownBlock) :
    EvI w g F D (L ++ [x]) A' c' (V'.setCell ⟨w.heap.size, 0, none⟩ (.slice A' (L.length + 1) c')) := by
  have hb : ∀ b, b < w.heap.size + 2 → b < V.heap.size → V'.heap[b]? = V.heap[b]? := fun b hb hlt => hg.block b hlt (own_ne h.ow hb)
  have hr := h.rg.lt
  have hgne : g ≠ w.heap.size := by
    rintro rfl
    obtain ⟨es, cc, hm, _⟩ := h.rg.map
    have := hm.symm.trans h.bx
    simp at this
  have hgb : V'.heap[g]? = V.heap[g]? := by
    refine hg.block _ hr.2 fun e1 => ?_
    obtain ⟨cs', hcs⟩ := own_type h.ow e1.symm
    obtain ⟨es, cc, hm, _⟩ := h.rg.map
    have := hm.symm.trans hcs
    simp at this
  have hlen : (L ++ [x]).length = L.length + 1 := by simp
  refine ⟨h.rg.keep ?_ ?_, ?_, ?_, ?_, ?_⟩
  · rw [Below.heap_setCell _ _ _ _ (by simp)]
    exact hb _ (by omega) hr.1
  · rw [Below.heap_setCell _ _ _ _ hgne]
    exact hgb
  · refine Below.setCell ?_ (by simp) _
    exact ⟨hg.os.trans h.bl.os, hg.tape.trans h.bl.tape, hg.output.trans h.bl.output, Nat.le_trans h.bl.size hg.size, fun i hi => (hb i (by omega) (by have := h.bl.size; omega)).trans (h.bl.block i hi)⟩
  · have : Bk V' w.heap.size 42 #[.slice A L.length c] := (hb _ (by omega) h.bx.lt).trans h.bx
    rw [hlen]
    exact this.put 0 (.slice A' (L.length + 1) c')
  · rw [noteCells_snoc, hlen]
    exact ownsRow_setCell_below hown (by simp) _
  · intro n hn
    have hn' : n.At V ∧ n.StrT V := by
      rcases List.mem_append.1 hn with hn | hn
      · exact h.st n hn
      · rw [List.mem_singleton.1 hn]
        exact hx
    refine str_keep hn' (fun q t cs hq ht => ?_) (by simpa using hg.size)
    subst ht
    rw [Below.heap_setCell _ _ _ _ (by rintro rfl; have := hq.symm.trans h.bx; simp at this)]
    exact hg.block q hq.lt (own_notT h.ow hq (by decide))
end

theorem setRow_grown (w : World) (q : Nat) (cs : Array Value) : w.grownBy (w.setRow q cs) (some q) :=
  ⟨rfl, rfl, rfl, by rw [setRow_size]; exact Nat.le_refl _, fun k _ hne => setRow_other (fun e => hne (by rw [e])) cs⟩
theorem at_setRow {n : NoteD} {q : Nat} {V : World} (h : n.At V) (hq : ∀ a, n.sA = some a → a.block ≠ q) (cs' : Array Value) : n.At (V.setRow q cs') := RowAt.of_heap h (fun a ha => setRow_other (hq a ha) _) (by rw [setRow_size]; exact Nat.le_refl _)
theorem EvI.setRow {w : World} {g : Nat} {F D : NameF} {L : List NoteD} {A : Option Addr} {c : Nat} {V : World} (h : EvI w g F D L A c V) {q : Nat} (hq : w.heap.size + 2 ≤ q) (ho : ∀ b, (Value.slice A L.length c).ownBlock = some b → b ≠ q) {old : Array Value} (hb : Bk V q 68 old) (cs : Array Value) : EvI w g F D L A c (V.setRow q cs) := by
  have hgq : g ≠ q := by
    rintro rfl
    obtain ⟨es, cc, hm, _⟩ := h.rg.map
    have := hm.symm.trans hb
    simp at this
  refine ⟨h.rg.keep (setRow_other (by omega) _) (setRow_other hgq _), below_setRow h.bl (by omega) _, h.bx.farRow (by omega) _, h.ow.kept (row := some q) (setRow_grown V q cs) ?_, fun n hn => ?_⟩
  · cases hv : (Value.slice A L.length c).ownBlock with
    | none => exact .inl rfl
    | some b => exact .inr (fun e => by injection e with e; exact ho b hv e)
  · refine str_keep (h.st n hn) (fun k t cs2 hk ht => setRow_other ?_ _) (by rw [setRow_size]; exact Nat.le_refl _)
    rintro rfl
    subst ht
    have := hk.symm.trans hb
    simp at this

/-- What events returns. -/
def EventsP (l : List NoteD) (w : World) (e : Ending) (w' : World) : Prop :=
  ∃ (L : List NoteD) (A : Option Addr) (c : Nat), Below w.heap.size w w' ∧ Bk w' w.heap.size 42 #[.slice A L.length c] ∧ NotesAt w' A L ∧ (∀ n ∈ L, n.StrT w') ∧ (∀ a, A = some a → w.heap.size ≤ a.block ∧ a.block < w'.heap.size) ∧ L.length ≤ l.length ∧ (L.map NoteD.plain).Perm (evsOf (l.map NoteD.plain)) ∧ L.Pairwise whenLt ∧ e = .returned (.func (.func 137) #[] #[.pointer (some ⟨w.heap.size, 0, none⟩)])

theorem own_rowAt {w : World} {base : Nat} {e : TypeId} {size n c : Nat} {A : Option Addr} {xs : List Value} (h : w.ownsRow base e size (.slice A n c) n xs) : RowAt w A xs := by
  obtain ⟨A', c', hv, _, h3, _⟩ := own_form h
  injection hv with h1 h2 h4
  subst h1
  exact h3
theorem EvI.ends {w : World} {g : Nat} {F D : NameF} {L L' : List NoteD} {A : Option Addr} {c : Nat} {V V' : World} (h : EvI w g F D L A c V) (hp : L'.Perm L)
    (hown : V'.ownsRow (w.heap.size + 2) 68 19 (.slice A L.length c) L.length (noteCells L')) (hg : V.grownBy V' (Value.slice A L.length c).ownBlock) :
    Below w.heap.size w V' ∧ Bk V' w.heap.size 42 #[.slice A L'.length c] ∧ NotesAt V' A L' ∧ (∀ n ∈ L', n.StrT V') ∧ (∀ a, A = some a → w.heap.size ≤ a.block ∧ a.block < V'.heap.size) := by
  have hb : ∀ b, b < w.heap.size + 2 → b < V.heap.size → V'.heap[b]? = V.heap[b]? := fun b hb hlt => hg.block b hlt (own_ne h.ow hb)
  refine ⟨⟨hg.os.trans h.bl.os, hg.tape.trans h.bl.tape, hg.output.trans h.bl.output, Nat.le_trans h.bl.size hg.size, fun i hi => (hb i (by omega) (by have := h.bl.size; omega)).trans (h.bl.block i hi)⟩, ?_, ⟨own_rowAt hown, fun n hn => ?_⟩, fun n hn => ?_, fun a ha => by have := own_lt hown a ha; omega⟩
  · rw [hp.length_eq]
    exact (hb _ (by omega) h.bx.lt).trans h.bx
  · exact (str_keep (h.st n (hp.mem_iff.1 hn)) (fun q t cs hq ht => by subst ht; exact hg.block q hq.lt (own_notT h.ow hq (by decide))) hg.size).1
  · exact (str_keep (h.st n (hp.mem_iff.1 hn)) (fun q t cs hq ht => by subst ht; exact hg.block q hq.lt (own_notT h.ow hq (by decide))) hg.size).2
end Go.Proofs.YteihcodicfoiaaaGreat
namespace Go.Proofs.YteihcodicfoiaaaGreat
open Go.RowKit

noncomputable def buildI (t : TypeId) (ps : Array (Nat × Value)) : Sem Value := Instr.buildSlice t 1 ps
noncomputable def buildN (t : TypeId) (ps : Array (Nat × Value)) (w : World) : Result Value := Sem.run Tryz.prog (Instr.buildSlice t 1 ps) w
theorem build_run (t : TypeId) (ps : Array (Nat × Value)) (w : World) : Sem.run Tryz.prog (buildI t ps) w = buildN t ps w := rfl
theorem build_at42 (ps : Array (Nat × Value)) : Instr.buildSlice 42 1 ps = buildI 42 ps := rfl
theorem build_at46 (ps : Array (Nat × Value)) : Instr.buildSlice 46 1 ps = buildI 46 ps := rfl
theorem build_at52 (ps : Array (Nat × Value)) : Instr.buildSlice 52 1 ps = buildI 52 ps := rfl
theorem build_at53 (ps : Array (Nat × Value)) : Instr.buildSlice 53 1 ps = buildI 53 ps := rfl
theorem build42 (n : NoteD) (W : World) : buildN 42 #[(0, .agg n.arr)] W = .ok (.slice (some ⟨W.heap.size, 0, none⟩) 1 1) (W.alloc (.cells n.arr 68)) := by unfold buildN; kernel_rfl
theorem build46 (e : EvD) (W : World) : buildN 46 #[(0, .agg e.cells.toArray)] W = .ok (.slice (some ⟨W.heap.size, 0, none⟩) 1 1) (W.alloc (.cells e.cells.toArray 70)) := by unfold buildN; kernel_rfl
end Go.Proofs.YteihcodicfoiaaaGreat
namespace Go.Proofs.YteihcodicfoiaaaGreat
open Go.RowKit

theorem info68n : (Tryz.prog.info? 68).map (fun i => (i.zero, i.size, i.bytes)) = some (some (.agg #[.int .i64 0, .int .i64 0, .int .i64 0, .int .i64 0, .int .i64 0, .int .i64 0, .int .i64 0, .int .i64 0, .int .i64 0, .int .i64 0, .int .i64 0, .int .i64 0, .int .i64 0, .int .i64 0, .int .i64 0, .slice none 0 0, .int .i64 0, .int .i64 0, .int .i64 0]), 19, 168) := by kernel_rfl
theorem note_block {w : World} {q : Nat} {n : NoteD} (h : Bk w q 68 n.arr) : ∀ (j : Nat) (u : Value), n.arr.toList[j]? = some u → w.cell? ((⟨q, 0, none⟩ : Addr).add j) = some u := fun j u hu => by
  rw [add_at, Nat.zero_add, h.cell j, ← Array.getElem?_toList]
  exact hu
theorem arr_ones (n : NoteD) : ∀ u ∈ n.arr.toList, u.oneCell' = true := fun u hu => by
  have h := arr_one n
  rw [← Array.all_toList, List.all_eq_true] at h
  exact h u hu

/-- What the map of judges says of a note. -/
theorem judge_look {l D : List NoteD} {J : NameF} (hp : D.Perm l) (h : JudgeOf l D J) (hn : (l.map NoteD.name).Nodup) {n : NoteD} (hm : n ∈ l) :
    ∃ o : Option NoteD, lookF J n.name = o.map (fun n => .agg n.arr) ∧ (∀ j, o = some j → j ∈ l) ∧ (isDone n = true → o = best (l.filter (cand n))) := by
  refine ⟨best (D.filter (heldFor l n.name)), h n.name, fun j hj => ?_, fun hd => ?_⟩
  · exact hp.mem_iff.1 (List.mem_filter.1 (best_mem hj)).1
  · have e : heldFor l n.name = cand n := by funext x; exact heldFor_cand hn hm hd
    rw [e, best_perm (hp.filter _) (fun a ha b hb => names_inj hn (List.mem_filter.1 ha).1 (List.mem_filter.1 hb).1)]
theorem look_got (o : Option NoteD) : ((o.map fun n => Value.agg n.arr).getD (.agg #[.int .i64 0, .int .i64 0, .int .i64 0, .int .i64 0, .int .i64 0, .int .i64 0, .int .i64 0, .int .i64 0, .int .i64 0, .int .i64 0, .int .i64 0, .int .i64 0, .int .i64 0, .int .i64 0, .int .i64 0, .slice none 0 0, .int .i64 0, .int .i64 0, .int .i64 0])) = .agg (o.getD note0).arr := by
  cases o with
  | none => rfl
  | some j => rfl

attribute [local go_sem ↓] load_at68 load_run store_at68 store_run build_at42 build_run
set_option maxRecDepth 100000 in
set_option maxHeartbeats 8000000 in
theorem events_any (l : List NoteD) (p g gj : Nat) (J : NameF) (va : Value) (w : World) (hb : Bk w p 190 #[.map (some g), .map (some gj), va]) (hm : MapIs w g (setFn l)) (hj : MapIs w gj J) (hJ : ∃ D : List NoteD, D.Perm l ∧ JudgeOf l D J)
    (hnd : (l.map NoteD.name).Nodup) (hlen : l.length ≤ 400) (hat : ∀ n ∈ l, n.At w) (hstr : ∀ n ∈ l, n.strokes.length ≤ 65536) :
    Calls Tryz.prog 88 #[.pointer (some ⟨p, 0, none⟩)] w (EventsP l w) := by
  have hB0 : Below w.heap.size w (w.alloc (.cells #[.slice none 0 0] 42)) := (Below.refl _ _).alloc (Nat.le_refl _) _
  obtain ⟨w1, hrun, R0, hb1⟩ := range_start und123 (hm.below hB0)
  have hglt := hm.lt
  have e2 : (w.alloc (.cells #[.slice none 0 0] 42)).heap.size = w.heap.size + 1 := by simp
  rw [e2] at hrun R0
  have S0 : EvI w g (setFn l) (setFn []) [] none 0 w1 := ⟨R0, hB0.trans (hb1.mono hB0.size), (bk_last (w := w) (t := 42) (cs := #[.slice none 0 0]) rfl).keep hb1, World.ownsRow_nil _ _ _ _, (fun n hn => by cases hn)⟩
  have hp0 := hb.cell 0
  have hp1 := (hb.alloc (.cells #[.slice none 0 0] 42)).cell 0
  simp at hp0 hp1
  have HP := Lib.hid (And.intro hb (And.intro hm (And.intro hj (And.intro hnd (And.intro hat hstr)))))
  have HJ := Lib.hid hJ
  have hplt := hb.lt
  clear hm hnd hB0 R0 hb1 e2 hb hj hJ hat hstr
  go_enter Tryz.func88, Tryz.ntmps88
  go_upto_region 3 with fail
  clear hrun hp0 hp1
  go_loopw [13] (fun _ wr => ∃ (Dn L : List NoteD) (A : Option Addr) (c : Nat), EvI w g (setFn l) (setFn Dn) L A c wr ∧ (∀ n ∈ Dn, n ∈ l) ∧ Hid (EvMade l Dn L)) (fun _ wr => restN wr (w.heap.size + 1))
  case atStart => exact ⟨[], [], none, 0, S0, by simp, Lib.hid (EvMade.nil l)⟩
  case round =>
    clear S0
    obtain ⟨Dn, L, A, c, S, hsub, HM⟩ := hrel
    rcases range_next S.rg (by omega) with ⟨hperm, hnx⟩ | ⟨kk, v, w2, hmem, hnx, R2, hb2, far2, hent⟩
    · have HS := Lib.hid S
      have hpl := hperm.length_eq
      have HPL : Hid (Dn.Perm l) := by
        refine Lib.hid ?_
        have h2 := hperm.map Prod.fst
        rw [setFn_keys, setFn_keys] at h2
        refine (List.perm_ext_iff_of_nodup ?_ ?_).2 ?_
        · have := h2.nodup_iff.2 HP.out.2.2.2.1
          exact nodup_map this
        · exact nodup_map HP.out.2.2.2.1
        · intro n
          refine ⟨hsub n, fun hn => ?_⟩
          have h3 : (n.name, Value.agg n.arr) ∈ setFn Dn := hperm.mem_iff.2 (List.mem_map.2 ⟨n, hn, rfl⟩)
          obtain ⟨m, hm1, hm2⟩ := List.mem_map.1 h3
          injection hm2 with hm2 _
          have := names_inj HP.out.2.2.2.1 (hsub m hm1) hn hm2
          rwa [← this]
      have hLl : L.length ≤ l.length := Nat.le_trans HM.out.len (by rw [HPL.out.length_eq]; exact Nat.le_refl _)
      have HSO := Lib.hid (sortNotes_any L A c (w.heap.size + 2) wr S.ow (by omega))
      have bx0 := S.bx.cell 0
      simp at bx0
      clear S hperm hsub hpl
      go_wp2_with (go_at_call 135; refine HSO.out.mono ?_; rintro e wz ⟨rfl, L', hpp, hss, hown, hgg⟩)
      go_ret
      have h1 := HS.out.ends hpp hown hgg
      have h2 := HM.out.sorted HPL.out HP.out.2.2.2.1 hpp hss
      exact ⟨L', A, c, h1.1, h1.2.1, h1.2.2.1, h1.2.2.2.1, h1.2.2.2.2, by rw [hpp.length_eq]; exact hLl, h2.1, h2.2, rfl⟩
    · obtain ⟨n, hn, hkv⟩ := List.mem_map.1 hmem
      injection hkv with hk1 hv1
      obtain ⟨k1, k2⟩ := kk
      have e1 := S.rg.rest
      have e2 := R2.rest
      have hrest : restN w2 (w.heap.size + 1) < restN wr (w.heap.size + 1) := by rw [List.length_append] at e2; simp at e2; omega
      unfold NoteD.name at hk1
      injection hk1 with h1 h2
      subst h1
      subst h2
      subst hv1
      have S2 := S.step R2 hb2 far2
      rw [show setFn Dn ++ [((n.house, n.num), Value.agg n.arr)] = setFn (Dn ++ [n]) by simp [setFn, NoteD.name]] at S2
      have hsub2 : ∀ x ∈ Dn ++ [n], x ∈ l := fun x hx => by
        rcases List.mem_append.1 hx with hx | hx
        · exact hsub x hx
        · simp at hx
          rw [hx]
          exact hn
      obtain ⟨q, hq⟩ : ∃ q, w2.heap.size = q := ⟨_, rfl⟩
      have hq1 : (w2.alloc (.cells #[.int .i64 n.house, .int .i64 n.num] 66)).heap.size = q + 1 := by simp [hq]
      have HQO : Hid (∀ b, (Value.slice A L.length c).ownBlock = some b → b < q) := Lib.hid fun b hbq => by rw [← hq]; exact (S2.ow.lt b hbq).2
      have s1 := storeN_eq (ty := 68) (cs := n.arr) (bk_last (t := 68) (cs := #[.int .i64 0, .int .i64 0, .int .i64 0, .int .i64 0, .int .i64 0, .int .i64 0, .int .i64 0, .int .i64 0, .int .i64 0, .int .i64 0, .int .i64 0, .int .i64 0, .int .i64 0, .int .i64 0, .int .i64 0, .slice none 0 0, .int .i64 0, .int .i64 0, .int .i64 0]) hq1) (by kernel_rfl) rfl (arr_one _)
      have Y : Bk (((w2.alloc (.cells #[.int .i64 n.house, .int .i64 n.num] 66)).alloc (.cells #[.int .i64 0, .int .i64 0, .int .i64 0, .int .i64 0, .int .i64 0, .int .i64 0, .int .i64 0, .int .i64 0, .int .i64 0, .int .i64 0, .int .i64 0, .int .i64 0, .int .i64 0, .int .i64 0, .int .i64 0, .slice none 0 0, .int .i64 0, .int .i64 0, .int .i64 0] 68)).setRow (q + 1) n.arr) (q + 1) 68 n.arr := setRow_at (bk_last hq1) _
      have N : Bk (((w2.alloc (.cells #[.int .i64 n.house, .int .i64 n.num] 66)).alloc (.cells #[.int .i64 0, .int .i64 0, .int .i64 0, .int .i64 0, .int .i64 0, .int .i64 0, .int .i64 0, .int .i64 0, .int .i64 0, .int .i64 0, .int .i64 0, .int .i64 0, .int .i64 0, .int .i64 0, .int .i64 0, .slice none 0 0, .int .i64 0, .int .i64 0, .int .i64 0] 68)).setRow (q + 1) n.arr) q 66 #[.int .i64 n.house, .int .i64 n.num] := ((bk_last hq).alloc _).farRow (by omega) _
      have hB3 : Below w2.heap.size w2 (((w2.alloc (.cells #[.int .i64 n.house, .int .i64 n.num] 66)).alloc (.cells #[.int .i64 0, .int .i64 0, .int .i64 0, .int .i64 0, .int .i64 0, .int .i64 0, .int .i64 0, .int .i64 0, .int .i64 0, .int .i64 0, .int .i64 0, .int .i64 0, .int .i64 0, .int .i64 0, .int .i64 0, .slice none 0 0, .int .i64 0, .int .i64 0, .int .i64 0] 68)).setRow (q + 1) n.arr) := below_setRow (((Below.refl _ _).alloc (Nat.le_refl _) _).alloc (by simp) _) (by omega) _
      have S3 := S2.below hB3
      have HREST : Hid (restN (((w2.alloc (.cells #[.int .i64 n.house, .int .i64 n.num] 66)).alloc (.cells #[.int .i64 0, .int .i64 0, .int .i64 0, .int .i64 0, .int .i64 0, .int .i64 0, .int .i64 0, .int .i64 0, .int .i64 0, .int .i64 0, .int .i64 0, .int .i64 0, .int .i64 0, .int .i64 0, .int .i64 0, .slice none 0 0, .int .i64 0, .int .i64 0, .int .i64 0] 68)).setRow (q + 1) n.arr) (w.heap.size + 1) < restN wr (w.heap.size + 1)) := by
        have e3 := S3.rg.rest
        have e4 := S2.rg.rest
        exact Lib.hid (by omega)
      have HK := Lib.hid (And.intro Y (And.intro N S3))
      have hqB : w.heap.size + 2 ≤ q := by have := S2.rg.lt.1; omega
      have HLEN : Hid (L.length + 1 ≤ 400) := by
        refine Lib.hid ?_
        have h5 := S3.rg.rest
        have h6 := HM.out.len
        simp only [setFn, List.length_map, List.length_append, List.length_singleton] at h5
        omega
      clear S R2 hb2 far2 S2 S3 Y N hB3 e1 e2 hrest hmem
      go_upto_region 5 with fail
      clear s1 hnx hent hq hq1
      generalize ((w2.alloc _).alloc _).setRow _ _ = V at *
      obtain ⟨D0, hD0, hJ0⟩ := HJ.out
      obtain ⟨o, ho1, ho2, ho3⟩ := judge_look hD0 hJ0 HP.out.2.2.2.1 hn
      have HO := Lib.hid (And.intro ho2 ho3)
      have hqr : q + 1 < V.heap.size := HK.out.1.lt
      have hBV := HK.out.2.2.bl
      have x0 := HK.out.2.1.cell 0
      have x1 := HK.out.2.1.cell 1
      have b1 := (HP.out.1.keep hBV).cell 1
      have hBa : Below V.heap.size V ((V.alloc (.cells #[.int .i64 0, .int .i64 0, .int .i64 0, .int .i64 0, .int .i64 0, .int .i64 0, .int .i64 0, .int .i64 0, .int .i64 0, .int .i64 0, .int .i64 0, .int .i64 0, .int .i64 0, .int .i64 0, .int .i64 0, .slice none 0 0, .int .i64 0, .int .i64 0, .int .i64 0] 68)).drew) := ((Below.refl _ _).alloc (Nat.le_refl _) _).drew
      have x0b := (HK.out.2.1.keep hBa).cell 0
      have x1b := (HK.out.2.1.keep hBa).cell 1
      have b1b := ((HP.out.1.keep hBV).keep hBa).cell 1
      simp at x0 x1 b1 x0b x1b b1b
      have lka := look123 und122 (show MapIs V.drew gj J from (HP.out.2.2.1.below hBV).drew) n.house n.num
      have lkb := look123 und122 ((HP.out.2.2.1.below hBV).below hBa) n.house n.num
      rw [show lookF J (n.house, n.num) = _ from ho1, look_got, Option.isSome_map] at lka lkb
      have s3 := storeN_eq (ty := 68) (cs := (o.getD note0).arr) (show Bk ((V.alloc (.cells #[.int .i64 0, .int .i64 0, .int .i64 0, .int .i64 0, .int .i64 0, .int .i64 0, .int .i64 0, .int .i64 0, .int .i64 0, .int .i64 0, .int .i64 0, .int .i64 0, .int .i64 0, .int .i64 0, .int .i64 0, .slice none 0 0, .int .i64 0, .int .i64 0, .int .i64 0] 68)).drew) V.heap.size 68 #[.int .i64 0, .int .i64 0, .int .i64 0, .int .i64 0, .int .i64 0, .int .i64 0, .int .i64 0, .int .i64 0, .int .i64 0, .int .i64 0, .int .i64 0, .int .i64 0, .int .i64 0, .int .i64 0, .int .i64 0, .slice none 0 0, .int .i64 0, .int .i64 0, .int .i64 0] from Bk.drew (bk_last rfl)) (by kernel_rfl) rfl (arr_one _)
      have hB9 : Below V.heap.size V (((V.alloc (.cells #[.int .i64 0, .int .i64 0, .int .i64 0, .int .i64 0, .int .i64 0, .int .i64 0, .int .i64 0, .int .i64 0, .int .i64 0, .int .i64 0, .int .i64 0, .int .i64 0, .int .i64 0, .int .i64 0, .int .i64 0, .slice none 0 0, .int .i64 0, .int .i64 0, .int .i64 0] 68)).drew).setRow V.heap.size (o.getD note0).arr) := below_setRow hBa (by omega) _
      have HB := Lib.hid (show Bk (((V.alloc (.cells #[.int .i64 0, .int .i64 0, .int .i64 0, .int .i64 0, .int .i64 0, .int .i64 0, .int .i64 0, .int .i64 0, .int .i64 0, .int .i64 0, .int .i64 0, .int .i64 0, .int .i64 0, .int .i64 0, .int .i64 0, .slice none 0 0, .int .i64 0, .int .i64 0, .int .i64 0] 68)).drew).setRow V.heap.size (o.getD note0).arr) (q + 1) 68 n.arr ∧ Bk (((V.alloc (.cells #[.int .i64 0, .int .i64 0, .int .i64 0, .int .i64 0, .int .i64 0, .int .i64 0, .int .i64 0, .int .i64 0, .int .i64 0, .int .i64 0, .int .i64 0, .int .i64 0, .int .i64 0, .int .i64 0, .int .i64 0, .slice none 0 0, .int .i64 0, .int .i64 0, .int .i64 0] 68)).drew).setRow V.heap.size (o.getD note0).arr) V.heap.size 68 (o.getD note0).arr ∧ EvI w g (setFn l) (setFn (Dn ++ [n])) L A c (((V.alloc (.cells #[.int .i64 0, .int .i64 0, .int .i64 0, .int .i64 0, .int .i64 0, .int .i64 0, .int .i64 0, .int .i64 0, .int .i64 0, .int .i64 0, .int .i64 0, .int .i64 0, .int .i64 0, .int .i64 0, .int .i64 0, .slice none 0 0, .int .i64 0, .int .i64 0, .int .i64 0] 68)).drew).setRow V.heap.size (o.getD note0).arr) from ⟨HK.out.1.keep hB9, setRow_at (show Bk ((V.alloc (.cells #[.int .i64 0, .int .i64 0, .int .i64 0, .int .i64 0, .int .i64 0, .int .i64 0, .int .i64 0, .int .i64 0, .int .i64 0, .int .i64 0, .int .i64 0, .int .i64 0, .int .i64 0, .int .i64 0, .int .i64 0, .slice none 0 0, .int .i64 0, .int .i64 0, .int .i64 0] 68)).drew) V.heap.size 68 #[.int .i64 0, .int .i64 0, .int .i64 0, .int .i64 0, .int .i64 0, .int .i64 0, .int .i64 0, .int .i64 0, .int .i64 0, .int .i64 0, .int .i64 0, .int .i64 0, .int .i64 0, .int .i64 0, .int .i64 0, .slice none 0 0, .int .i64 0, .int .i64 0, .int .i64 0] from Bk.drew (bk_last rfl)) _, HK.out.2.2.below hB9⟩)
      clear hBV hBa hB9 ho1 ho2 ho3 hJ0 hD0
      obtain ⟨j, hj⟩ : ∃ j, o.getD note0 = j := ⟨_, rfl⟩
      obtain ⟨bo, hbo⟩ : ∃ bo, o.isSome = bo := ⟨_, rfl⟩
      rw [hj] at lka lkb s3 HB
      rw [hbo] at lka lkb
      have HJO := Lib.hid (And.intro hj hbo)
      clear hj hbo
      go_region
      generalize World.setRow _ V.heap.size _ = w10 at *
      generalize V.heap.size = r at *
      clear s3 lka lkb x0 x1 x0b x1b b1 b1b
      have HREST2 : Hid (restN w10 (w.heap.size + 1) < restN wr (w.heap.size + 1)) := by
        have e1 := HK.out.2.2.rg.rest
        have e2 := HB.out.2.2.rg.rest
        have := HREST.out
        exact Lib.hid (by omega)
      clear HREST HK
      have HD := Lib.hid (done_any n w10)
      rw [show inB n.kind 1 4 = isDone n from rfl] at HD
      have ln := load68_eq n HB.out.1
      cases hd : isDone n with
      | false =>
        rw [hd] at HD
        have HEF : Hid (eff l n = none) := Lib.hid (by unfold eff; rw [hd]; rfl)
        clear hd
        go_wp2_with (go_at_call 71; refine HD.out.mono ?_; rintro e w3 ⟨rfl, hb3⟩; have HS4 := Lib.hid (HB.out.2.2.below hb3); clear ln HD)
        go_roundw
        case rel => exact ⟨Dn ++ [n], L, A, c, HS4.out, hsub2, Lib.hid (HM.out.skip HEF.out)⟩
        case measure =>
          have e1 := HB.out.2.2.rg.rest
          have e2 := HS4.out.rg.rest
          have := HREST2.out
          omega
      | true =>
        rw [hd] at HD
        have HDD := Lib.hid hd
        clear hd
        go_upto_region 7 with (go_at_call 71; refine HD.out.mono ?_; rintro e w3 ⟨rfl, hb3⟩; have HS4 := Lib.hid (And.intro (HB.out.1.keep hb3) (And.intro (HB.out.2.1.keep hb3) (HB.out.2.2.below hb3))); clear ln HD)
        have HREST3 : Hid (restN w3 (w.heap.size + 1) < restN wr (w.heap.size + 1)) := by
          have e1 := HB.out.2.2.rg.rest
          have e2 := HS4.out.2.2.rg.rest
          have := HREST2.out
          exact Lib.hid (by omega)
        have HB := HS4
        clear HS4 HREST2 hb3
        have x4 := HB.out.2.1.cell 4
        simp [NoteD.arr] at x4
        cases bo with
        | false =>
          have HEF : Hid (∃ m, eff l n = some m ∧ n.plain = m.plain) := Lib.hid (by
            have h1 : o = none := by
              have := HJO.out.2
              simpa using this
            have h2 := HO.out.2 HDD.out
            refine ⟨n, ?_, rfl⟩
            unfold eff
            rw [HDD.out, ← h2, h1]
            rfl)
          have HXA : Hid (n.At w3.drew ∧ n.strokes.length ≤ 65536) := Lib.hid ⟨(HP.out.2.2.2.2.1 n hn).below HB.out.2.2.bl.drew, HP.out.2.2.2.2.2 n hn⟩
          have HB2 : Hid (Bk w3 (q + 1) 68 n.arr ∧ EvI w g (setFn l) (setFn (Dn ++ [n])) L A c w3) := Lib.hid ⟨HB.out.1, HB.out.2.2⟩
          clear HB
          have HB := HB2
          clear HB2
          go_upto_region 10 with fail
          have HU := Lib.hid (show Bk w3.drew (q + 1) 68 n.arr ∧ EvI w g (setFn l) (setFn (Dn ++ [n])) L A c w3.drew from ⟨HB.out.1.drew, HB.out.2.drew⟩)
          have ln1 := load68_eq n HU.out.1
          have c1 := HU.out.2.bx.cell 0
          simp at c1
          have HNN := Lib.hid (copied_any n w3.drew HXA.out.1 HXA.out.2)
          obtain ⟨i0, hi0, hz0, hz1, hz2⟩ := info_parts info68n
          clear HB x4
          go_region_law (first
            | (go_simp; go_at_call 134; refine HNN.out.mono ?_; rintro e w5 ⟨⟨x', hpl, hat, hbd, hty, rfl⟩, hb5⟩; dsimp only; have bs5 := build42 x' w5; have HX5 := Lib.hid (And.intro hpl (And.intro hat hty)); clear hpl hat hbd hty; have ln2 := load68_eq n (HU.out.1.keep hb5); have ln3 := load68_eq n ((HU.out.1.keep hb5).alloc (.cells x'.arr 68)); have c2 := (HU.out.2.below hb5).bx.cell 0; have c3 := ((HU.out.2.below hb5).bx.alloc (.cells x'.arr 68)).cell 0; simp at c2 c3)
            | (have hxs := (HU.out.2.below hb5).ow; refine step_append_own rfl _ _ 42 rfl (w.heap.size + 2) 68 i0 _ 19 168 Tryz.underlying42 hi0 hz0 hz1 hz2 rfl (by decide) (.slice A L.length c) L.length (noteCells L) rfl (hxs.alloc (.cells x'.arr 68)) ⟨w5.heap.size, 0, none⟩ 1 1 x'.arr.toList rfl rfl (note_block (bk_last rfl)) (arr_ones x') (by have := HLEN.out; unfold maxLen; omega) (by have := HLEN.out; omega) (by have h1 := (HU.out.2.below hb5).rg.lt.1; simp; omega) ?_; intro v6 w6 hown6 hg6; obtain ⟨A6, c6, rfl, _, _, _⟩ := own_form hown6; have N7 := ((HU.out.1.keep hb5).alloc (.cells x'.arr 68)).grown hg6 (fun e => by have := HQO.out _ e.symm; omega); have B7 := ((HU.out.2.below hb5).bx.alloc (.cells x'.arr 68)).grown hg6 (own_ne hxs (by omega)); have c4 := B7.cell 0; have f4 := B7.fz 0; have l4 := B7.lt; have ln4 := load68_eq n N7; have ln5 := load68_eq n (N7.far (p := ⟨w.heap.size, 0, none⟩) (by simp; omega) (.slice A6 (L.length + 1) c6)); simp at c4; have HEND := Lib.hid (And.intro hxs (And.intro hown6 hg6)); clear N7 B7 hown6 hg6 hxs))
          all_goals
            obtain ⟨hxs, hown6, hg6⟩ := HEND.out
            obtain ⟨hpl, hat, hty⟩ := HX5.out
            have hBx : Below w5.heap.size w5 (w5.alloc (.cells x'.arr 68)) := (Below.refl w5.heap.size w5).alloc (Nat.le_refl _) (.cells x'.arr 68)
            have S7 := ((HU.out.2.below hb5).below hBx).push ⟨hat.below hBx, StrT.below hty hBx⟩ hown6 hg6
            have HR7 : Hid (restN (w6.setCell ⟨w.heap.size, 0, none⟩ (.slice A6 (L.length + 1) c6)) (w.heap.size + 1) < restN wr (w.heap.size + 1)) := by
              have e1 := HU.out.2.rg.rest
              have e2 := S7.rg.rest
              have : restN w3 (w.heap.size + 1) < restN wr (w.heap.size + 1) := HREST3.out
              have : restN w3.drew (w.heap.size + 1) < restN wr (w.heap.size + 1) := this
              exact Lib.hid (by omega)
            obtain ⟨m, hm1, hm2⟩ := HEF.out
            have HM7 := Lib.hid (HM.out.push hm1 (hpl.trans hm2))
            have HS7 := Lib.hid S7
            clear S7 hxs hown6 hg6 HEND c4 f4 l4 ln1 ln2 ln3 ln4 ln5 c1 c2 c3 HU HNN hi0 hz0 hz1 hz2 hb5 HREST3 hpl hat hty hBx hm1 hm2 HX5 bs5
            generalize w6.setCell _ _ = U7 at *
            go_wp2_with fail
            go_roundw
            case rel => exact ⟨Dn ++ [n], L ++ [x'], A6, c6, HS7.out, hsub2, HM7⟩
            case measure => exact HR7.out
        | true =>
          have HOJ : Hid (o = some j) := Lib.hid (by
            have h1 := HJO.out
            cases o with
            | none => simp at h1
            | some j' =>
              have := h1.1
              simp at this
              rw [this])
          by_cases h6 : j.kind = 6
          · have b6 : (j.kind == 6) = true := by simpa using h6
            have HEF : Hid (eff l n = none) := Lib.hid (by
              have h2 := HO.out.2 HDD.out
              unfold eff
              rw [HDD.out, ← h2, HOJ.out]
              simp [effOf, h6])
            clear h6
            go_wp2_with fail
            go_roundw
            case rel => exact ⟨Dn ++ [n], L, A, c, HB.out.2.2, hsub2, Lib.hid (HM.out.skip HEF.out)⟩
            case measure => exact HREST3.out
          · have b6 : (j.kind == 6) = false := by simpa using h6
            have HEFC : Hid (eff l n = some (countsN n j)) := Lib.hid (by
              have h2 := HO.out.2 HDD.out
              unfold eff
              rw [HDD.out, ← h2, HOJ.out]
              simp [effOf, h6])
            have hjl := HO.out.1 j HOJ.out
            have HCN := Lib.hid (counts_any n j w3 ((HP.out.2.2.2.2.1 j hjl).below HB.out.2.2.bl) (HP.out.2.2.2.2.2 j hjl))
            have ln := load68_eq n HB.out.1
            have lj := load68_eq j HB.out.2.1
            clear h6 hjl
            go_upto_region 10 with (go_at_call 133; refine HCN.out.mono ?_; rintro e w4 ⟨⟨n', hpl, hat, hfr, rfl⟩, hb4⟩; have s4 := storeN_eq (ty := 68) (cs := n'.arr) (HB.out.1.keep hb4) (by kernel_rfl) rfl (arr_one _); have HPL := Lib.hid (And.intro hpl (And.intro hat (And.intro hfr hb4))); clear hpl hat hfr hb4 ln lj HCN)
            obtain ⟨hpl, hat, hfr, hb4⟩ := HPL.out
            have hqw := HB.out.1.lt
            have hBs : Below w3.heap.size w3 (w4.setRow (q + 1) n'.arr) → True := fun _ => trivial
            have hS5 := (HB.out.2.2.below hb4).setRow (q := q + 1) (by omega) (fun b hbq => by have := HQO.out b hbq; omega) (HB.out.1.keep hb4) n'.arr
            have HB2 : Hid (Bk (w4.setRow (q + 1) n'.arr) (q + 1) 68 n'.arr ∧ EvI w g (setFn l) (setFn (Dn ++ [n])) L A c (w4.setRow (q + 1) n'.arr)) := Lib.hid ⟨setRow_at (HB.out.1.keep hb4) _, hS5⟩
            have HREST4 : Hid (restN (w4.setRow (q + 1) n'.arr) (w.heap.size + 1) < restN wr (w.heap.size + 1)) := by
              have e1 := HB.out.2.2.rg.rest
              have e2 := hS5.rg.rest
              have := HREST3.out
              exact Lib.hid (by omega)
            have hst : n'.strokes.length ≤ 65536 := by
              have h1 := congrArg NoteD.strokes hpl
              have h2 : n'.strokes = (countsN n j).strokes := h1
              have h3 : (countsN n j).strokes = j.strokes := by unfold countsN; split <;> rfl
              rw [h2, h3]
              exact HP.out.2.2.2.2.2 j (HO.out.1 j HOJ.out)
            have HXA : Hid (n'.At (w4.setRow (q + 1) n'.arr).drew ∧ n'.strokes.length ≤ 65536) := Lib.hid ⟨at_setRow hat (fun a ha => by have := hfr a ha; omega) _, hst⟩
            have HEF : Hid (∃ m, eff l n = some m ∧ n'.plain = m.plain) := Lib.hid ⟨_, HEFC.out, hpl⟩
            clear HB HREST3 hBs hS5 s4 hpl hat hfr hqw hb4 HPL hst
            have HB := HB2
            have HREST3 := HREST4
            clear HB2 HREST4
            generalize w4.setRow _ _ = w5' at *
            go_upto_region 10 with fail
            have HU := Lib.hid (show Bk w5'.drew (q + 1) 68 n'.arr ∧ EvI w g (setFn l) (setFn (Dn ++ [n])) L A c w5'.drew from ⟨HB.out.1.drew, HB.out.2.drew⟩)
            have ln1 := load68_eq n' HU.out.1
            have c1 := HU.out.2.bx.cell 0
            simp at c1
            have HNN := Lib.hid (copied_any n' w5'.drew HXA.out.1 HXA.out.2)
            obtain ⟨i0, hi0, hz0, hz1, hz2⟩ := info_parts info68n
            clear HB x4
            go_region_law (first
              | (go_simp; go_at_call 134; refine HNN.out.mono ?_; rintro e w5 ⟨⟨x', hpl, hat, hbd, hty, rfl⟩, hb5⟩; dsimp only; have bs5 := build42 x' w5; have HX5 := Lib.hid (And.intro hpl (And.intro hat hty)); clear hpl hat hbd hty; have ln2 := load68_eq n' (HU.out.1.keep hb5); have ln3 := load68_eq n' ((HU.out.1.keep hb5).alloc (.cells x'.arr 68)); have c2 := (HU.out.2.below hb5).bx.cell 0; have c3 := ((HU.out.2.below hb5).bx.alloc (.cells x'.arr 68)).cell 0; simp at c2 c3)
              | (have hxs := (HU.out.2.below hb5).ow; refine step_append_own rfl _ _ 42 rfl (w.heap.size + 2) 68 i0 _ 19 168 Tryz.underlying42 hi0 hz0 hz1 hz2 rfl (by decide) (.slice A L.length c) L.length (noteCells L) rfl (hxs.alloc (.cells x'.arr 68)) ⟨w5.heap.size, 0, none⟩ 1 1 x'.arr.toList rfl rfl (note_block (bk_last rfl)) (arr_ones x') (by have := HLEN.out; unfold maxLen; omega) (by have := HLEN.out; omega) (by have h1 := (HU.out.2.below hb5).rg.lt.1; simp; omega) ?_; intro v6 w6 hown6 hg6; obtain ⟨A6, c6, rfl, _, _, _⟩ := own_form hown6; have N7 := ((HU.out.1.keep hb5).alloc (.cells x'.arr 68)).grown hg6 (fun e => by have := HQO.out _ e.symm; omega); have B7 := ((HU.out.2.below hb5).bx.alloc (.cells x'.arr 68)).grown hg6 (own_ne hxs (by omega)); have c4 := B7.cell 0; have f4 := B7.fz 0; have l4 := B7.lt; have ln4 := load68_eq n' N7; have ln5 := load68_eq n' (N7.far (p := ⟨w.heap.size, 0, none⟩) (by simp; omega) (.slice A6 (L.length + 1) c6)); simp at c4; have HEND := Lib.hid (And.intro hxs (And.intro hown6 hg6)); clear N7 B7 hown6 hg6 hxs))
            all_goals
              obtain ⟨hxs, hown6, hg6⟩ := HEND.out
              obtain ⟨hpl, hat, hty⟩ := HX5.out
              have hBx : Below w5.heap.size w5 (w5.alloc (.cells x'.arr 68)) := (Below.refl w5.heap.size w5).alloc (Nat.le_refl _) (.cells x'.arr 68)
              have S7 := ((HU.out.2.below hb5).below hBx).push ⟨hat.below hBx, StrT.below hty hBx⟩ hown6 hg6
              have HR7 : Hid (restN (w6.setCell ⟨w.heap.size, 0, none⟩ (.slice A6 (L.length + 1) c6)) (w.heap.size + 1) < restN wr (w.heap.size + 1)) := by
                have e1 := HU.out.2.rg.rest
                have e2 := S7.rg.rest
                have : restN w5' (w.heap.size + 1) < restN wr (w.heap.size + 1) := HREST3.out
                have : restN w5'.drew (w.heap.size + 1) < restN wr (w.heap.size + 1) := this
                exact Lib.hid (by omega)
              obtain ⟨m, hm1, hm2⟩ := HEF.out
              have HM7 := Lib.hid (HM.out.push hm1 (hpl.trans hm2))
              have HS7 := Lib.hid S7
              clear S7 hxs hown6 hg6 HEND c4 f4 l4 ln1 ln2 ln3 ln4 ln5 c1 c2 c3 HU HNN hi0 hz0 hz1 hz2 hb5 HREST3 hpl hat hty hBx hm1 hm2 HX5 bs5
              generalize w6.setCell _ _ = U7 at *
              go_wp2_with fail
              go_roundw
              case rel => exact ⟨Dn ++ [n], L ++ [x'], A6, c6, HS7.out, hsub2, HM7⟩
              case measure => exact HR7.out
end Go.Proofs.YteihcodicfoiaaaGreat
