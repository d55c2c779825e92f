/-
  What is proved: a row of structs that the call has built, sorted by the library: from the sort's words to ownsRow and back; the orders of names and notes are strict weak orders.
-/
import Derived.Test.YteihcodicfoiaaaGreatMw30
import Derived.Test.YteihcodicfoiaaaGreatCheckSMw
import Derived.Shelf.SlSortCmp.InsertionK
namespace Go.Proofs.YteihcodicfoiaaaGreat
open Go.RowKit
open Go.Sort

section
variable {α : Type} [Inhabited α]
theorem flatK_toList (enc : α → List Value) (k : Nat) (hk : ∀ x, (enc x).length = k) (l : List α) : (flatK enc k l.toArray).toList = l.flatMap enc := by
  apply List.ext_getElem?
  intro t
  by_cases ht : t < l.length * k
  · have k0 : 0 < k := by
      rcases Nat.eq_zero_or_pos k with h | h
      · rw [h] at ht; simp at ht
      · exact h
    have hi : t / k < l.length := (Nat.div_lt_iff_lt_mul k0).2 ht
    have hj : t % k < k := Nat.mod_lt _ k0
    have e := flat_get enc k hk k0 l (t / k) (t % k) hi hj
    rw [show t / k * k + t % k = t by rw [Nat.mul_comm]; exact Nat.div_add_mod t k] at e
    rw [e, Array.getElem?_toList]
    have hs : t < (flatK enc k l.toArray).size := by rw [size_flatK]; simpa using ht
    have h2 := get_flatK enc k l.toArray t (by simpa using ht)
    rw [getElem!_pos _ t hs] at h2
    rw [Array.getElem?_eq_getElem hs, h2]
    have e2 : l.toArray[t / k]! = l[t / k] := by rw [getElem!_pos _ _ (by simpa using hi)]; simp
    rw [e2, getElem!_pos _ _ (by rw [hk]; exact hj), List.getElem?_eq_getElem (by rw [hk]; exact hj)]
  · rw [List.getElem?_eq_none (by rw [Array.length_toList, size_flatK]; simpa using ht), List.getElem?_eq_none (by rw [flat_len enc k hk]; omega)]

theorem holdsK_of_block {w : World} {g : Nat} {cur : Array Value} {e : TypeId} (enc : α → List Value) (k : Nat) (hk : ∀ x, (enc x).length = k) {l : List α} (hb : w.heap[g]? = some (.cells cur e (0, 0))) (ht : cur.toList.take (l.length * k) = l.flatMap enc) : HoldsK enc k w g 0 l.toArray := by
  intro j hj
  have hj' : j < l.length * k := by simpa using hj
  refine ⟨?_, by simp [World.frozen?, hb]⟩
  have h1 : (cur.toList.take (l.length * k))[j]? = (l.flatMap enc)[j]? := by rw [ht]
  rw [List.getElem?_take_of_lt hj', ← flatK_toList enc k hk, Array.getElem?_toList, Array.getElem?_toList, Array.getElem?_eq_getElem hj] at h1
  simp only [World.cell?, hb, Nat.zero_add, Option.isSome_none, Bool.false_eq_true, if_false]
  rw [h1, getElem!_pos _ j hj]
  rfl

theorem heap_sortK {w : World} {g n : Nat} {os : Array Obj} {cur : Array Value} {e : TypeId} {fr : Nat × Nat} (enc : α → List Value) (k : Nat) (d : Array α) (hb : w.heap[g]? = some (.cells cur e fr)) :
    (sortWorldK enc k w g 0 n d os).heap[g]? = some (.cells (putCells id 0 (flatK enc k d) cur) e fr) := by
  have hg : g < w.heap.size := (Array.getElem?_eq_some_iff.1 hb).1
  unfold sortWorldK putRowK
  rw [heap_grow_old _ _ (by simpa using hg)]
  simp [putRow, mapBlock, Sort.ahead, Array.getElem?_modify, hb, onCells]

theorem grownBy_sortK {w : World} {g n : Nat} {os : Array Obj} (enc : α → List Value) (k : Nat) (d : Array α) : w.grownBy (sortWorldK enc k w g 0 n d os) (some g) := by
  unfold sortWorldK putRowK
  refine ⟨rfl, rfl, rfl, by simp, fun j hj hne => ?_⟩
  rw [heap_grow_old _ _ (by simpa using hj)]
  have : g ≠ j := fun e => hne (by rw [e])
  simp [putRow, mapBlock, Sort.ahead, Array.getElem?_modify, this]

theorem take_putCellsK (F cur : Array Value) (h : F.size ≤ cur.size) : (putCells id 0 F cur).toList.take F.size = F.toList := by
  apply List.ext_getElem?
  intro j
  by_cases hj : j < F.size
  · rw [List.getElem?_take_of_lt hj, Array.getElem?_toList, Array.getElem?_toList, Array.getElem?_eq_getElem hj]
    simp [putCells, hj, show j < cur.size by omega]
  · rw [List.getElem?_take_eq_none (by omega), List.getElem?_eq_none (by simpa using hj)]

/-- Behind the sort the same slice owns the sorted list. -/
theorem ownsRow_sortK {w : World} {base g cap n k : Nat} {e : TypeId} {os : Array Obj} (enc : α → List Value) (hk : ∀ x, (enc x).length = k) {l l' : List α} (hl : l'.length = l.length)
    (h : w.ownsRow base e k (.slice (some ⟨g, 0, none⟩) l.length cap) l.length (l.flatMap enc)) :
    (sortWorldK enc k w g 0 n l'.toArray os).ownsRow base e k (.slice (some ⟨g, 0, none⟩) l.length cap) l.length (l'.flatMap enc) := by
  rcases h.2 with ⟨h0, _⟩ | ⟨g', cap', cur, hv, hg, hb, hn, hcap, hs, ht⟩
  · cases h0
  cases hv
  refine ⟨by rw [flat_len enc k hk, hl], .inr ⟨g, cap, _, rfl, hg, heap_sortK enc k _ hb, hn, hcap, by simp [putCells, hs], ?_⟩⟩
  have h3 := take_putCellsK (flatK enc k l'.toArray) cur (by rw [size_flatK, hs]; simp [hl]; exact Nat.mul_le_mul_right k hn)
  rw [flatK_toList enc k hk, size_flatK] at h3
  simpa [hl] using h3

theorem holdsK_of_own {w : World} {base g cap k : Nat} {e : TypeId} (enc : α → List Value) (hk : ∀ x, (enc x).length = k) {l : List α}
    (h : w.ownsRow base e k (.slice (some ⟨g, 0, none⟩) l.length cap) l.length (l.flatMap enc)) : HoldsK enc k w g 0 l.toArray := by
  rcases h.2 with ⟨h0, _⟩ | ⟨g', cap', cur, hv, hg, hb, hn, hcap, hs, ht⟩
  · cases h0
  cases hv
  exact holdsK_of_block enc k hk hb ht

theorem permIn_list {l : List α} {d' : Array α} (h : PermIn 0 l.toArray.size l.toArray d') : d'.toList.Perm l := by
  obtain ⟨h1, _, h3⟩ := h
  have e1 : l.toArray.extract 0 l.toArray.size = l.toArray := by simp
  have e2 : d'.extract 0 l.toArray.size = d' := by rw [← h1]; simp
  rw [e1, e2] at h3
  simpa using h3
theorem sortedIn_list {lt : α → α → Bool} {d' : Array α} {n : Nat} (hn : d'.size = n) (h : SortedIn lt 0 n d') : d'.toList.Pairwise fun x y => lt y x = false := by
  rw [List.pairwise_iff_getElem]
  intro i j hi hj hij
  simp at hi hj
  have := h i j (Nat.zero_le _) hij (by omega)
  rw [getElem!_pos _ _ (by omega), getElem!_pos _ _ (by omega)] at this
  simpa using this
end

instance noteInhabited : Inhabited NoteD := ⟨note0⟩
def noteEnc (n : NoteD) : List Value := n.arr.toList
theorem noteEnc_len (n : NoteD) : (noteEnc n).length = 19 := rfl
theorem noteEnc_cells (l : List NoteD) : l.flatMap noteEnc = noteCells l := rfl
def nameEnc (n : Int × Int) : List Value := [.int .i64 n.1, .int .i64 n.2]
theorem nameEnc_len (n : Int × Int) : (nameEnc n).length = 2 := rfl

theorem ltName (x y : Int × Int) : ltOf cmpName x y = true ↔ nameLt x y := by unfold ltOf; rw [decide_eq_true_eq, cmpName_lt]
theorem ltWhen (x y : NoteD) : ltOf whenC x y = true ↔ whenLt x y := by unfold ltOf; rw [decide_eq_true_eq, whenC_lt]
theorem ltName_f (x y : Int × Int) : ltOf cmpName x y = false ↔ ¬ nameLt x y := by rw [← ltName]; simp
theorem ltWhen_f (x y : NoteD) : ltOf whenC x y = false ↔ ¬ whenLt x y := by rw [← ltWhen]; simp
theorem swo_name : SWO (ltOf cmpName) where
  irrefl x := by rw [ltName_f]; exact nameLt_irrefl x
  trans x y z h1 h2 := by rw [ltName] at *; exact nameLt_trans h1 h2
  ntrans x y z h1 h2 := by rw [ltName_f] at *; unfold nameLt at *; omega
theorem swo_when : SWO (ltOf whenC) where
  irrefl x := by rw [ltWhen_f]; unfold whenLt knownLt nameLt; omega
  trans x y z h1 h2 := by rw [ltWhen] at *; exact whenLt_trans h1 h2
  ntrans x y z h1 h2 := by rw [ltWhen_f] at *; unfold whenLt knownLt nameLt at *; omega
end Go.Proofs.YteihcodicfoiaaaGreat
