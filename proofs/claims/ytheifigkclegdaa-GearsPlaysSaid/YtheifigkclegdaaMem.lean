/-
  Words for memory: a block that is known whole.
-/
import Derived.Test.YtheifigkclegdaaMesh
import Derived.Test.YtheifigkclegdaaPlain
namespace Go.Proofs.Ytheifigkclegdaa
open Go.RowKit

/-- Block g is just these cells, of element type t, none of them frozen. -/
def Bk (w : World) (g : Nat) (t : TypeId) (cs : Array Value) : Prop := w.heap[g]? = some (.cells cs t (0, 0))

section
variable {w w' : World} {g : Nat} {t : TypeId} {cs : Array Value}
theorem Bk.lt (h : Bk w g t cs) : g < w.heap.size := (Array.getElem?_eq_some_iff.1 h).1
theorem Bk.cell (h : Bk w g t cs) (i : Nat) : w.cell? ⟨g, i, none⟩ = cs[i]? := cell_of_row w g i cs t (0, 0) h
theorem Bk.fz (h : Bk w g t cs) (i : Nat) : w.frozen? ⟨g, i, none⟩ = false := by
  have h' : w.heap[g]? = some (.cells cs t (0, 0)) := h
  simp [World.frozen?, h']
theorem Bk.new (w : World) (t : TypeId) (cs : Array Value) : Bk (w.alloc (.cells cs t)) w.heap.size t cs := heap_alloc_new w _
theorem Bk.alloc (h : Bk w g t cs) (o : Obj) : Bk (w.alloc o) g t cs := (Below.heap_alloc w o g h.lt).trans h
theorem Bk.drewN (h : Bk w g t cs) (n : Nat) : Bk (w.drewN n) g t cs := h
theorem Bk.drew (h : Bk w g t cs) : Bk w.drew g t cs := h
theorem Bk.far (h : Bk w g t cs) {p : Addr} (hp : g ≠ p.block) (u : Value) : Bk (w.setCell p u) g t cs := (Below.heap_setCell w p u g hp).trans h
theorem Bk.put (h : Bk w g t cs) (i : Nat) (u : Value) : Bk (w.setCell ⟨g, i, none⟩ u) g t (cs.setIfInBounds i u) := by
  have h' : w.heap[g]? = some (.cells cs t (0, 0)) := h
  show (w.setCell ⟨g, i, none⟩ u).heap[g]? = _
  simp [World.setCell, Array.getElem?_modify, h']
theorem Bk.below {B : Nat} (h : Bk w g t cs) (hb : Below B w w') (hg : g < B) : Bk w' g t cs := (hb.block g hg).trans h
theorem Bk.ne {g' : Nat} {t' : TypeId} {cs' : Array Value} (h : Bk w g t cs) (h' : Bk w g' t' cs') (hne : t ≠ t') : g ≠ g' := by
  rintro rfl
  have h1 : w.heap[g]? = some (.cells cs t (0, 0)) := h
  have h2 : w.heap[g]? = some (.cells cs' t' (0, 0)) := h'
  rw [h1] at h2
  injection h2 with h2
  injection h2 with _ h2
  exact hne h2
end

theorem below_drewN {B : Nat} {a w : World} (h : Below B a w) (n : Nat) : Below B a (w.drewN n) := ⟨h.os, h.tape, h.output, h.size, h.block⟩

/-- What a call's own slice holds, from its block. -/
theorem own_some {w : World} {base : Nat} {e : TypeId} {size : Nat} {v : Value} {n : Nat} {xs : List Value} (h : w.ownsRow base e size v n xs) (hn : 0 < n) :
    ∃ (g cap : Nat) (cur : Array Value), v = .slice (some ⟨g, 0, none⟩) n cap ∧ base ≤ g ∧ Bk w g e cur ∧ n ≤ cap ∧ cur.size = cap * size ∧ ∀ (j : Nat) (u : Value), xs[j]? = some u → cur[j]? = some u := by
  rcases h.2 with ⟨_, h0⟩ | ⟨g, cap, cur, hv, hb, hg, hnc, _, hs, ht⟩
  · omega
  · refine ⟨g, cap, cur, hv, hb, hg, hnc, hs, fun j u hu => ?_⟩
    rw [← ht, List.getElem?_take] at hu
    split at hu
    · simpa using hu
    · cases hu

theorem fracInfo : (Try.prog.info? 89).map (fun i => (i.zero, i.size, i.bytes)) = some (some (.agg #[.int .i64 0, .int .i64 0]), 2, 16) := by kernel_rfl
theorem intInfo : (Try.prog.info? 3).map (fun i => (i.zero, i.size, i.bytes)) = some (some (.int .i64 0), 1, 8) := by kernel_rfl

def oneCells (xs : List Value) : Prop := ∀ u ∈ xs, u.oneCell' = true

theorem add_at (b off j : Nat) : (⟨b, off, none⟩ : Addr).add j = ⟨b, off + j, none⟩ := by
  unfold Addr.add
  split
  · rename_i h; subst h; rfl
  · rfl

/-- The cells xs lie from ⟨b, off⟩ on. -/
def RowB (w : World) (b off : Nat) (xs : List Value) : Prop := b < w.heap.size ∧ ∀ (j : Nat) (u : Value), xs[j]? = some u → w.cell? ⟨b, off + j, none⟩ = some u
theorem RowB.keep {w w' : World} {b off : Nat} {xs : List Value} (h : RowB w b off xs) (hb : Below w.heap.size w w') : RowB w' b off xs :=
  ⟨Nat.lt_of_lt_of_le h.1 hb.size, fun j u hu => ((bcell hb).1 _ _ h.1).trans (h.2 j u hu)⟩
theorem RowB.alloc {w : World} {b off : Nat} {xs : List Value} (h : RowB w b off xs) (o : Obj) : RowB (w.alloc o) b off xs := h.keep ((Below.refl _ _).alloc (Nat.le_refl _) o)
theorem RowAt.some_ {w : World} {A : Option Addr} {xs : List Value} (h : RowAt w A xs) (h0 : 0 < xs.length) : ∃ b off, A = some ⟨b, off, none⟩ ∧ RowB w b off xs := by
  obtain ⟨b, off, e, hb, hc⟩ := h h0
  exact ⟨b, off, e, hb, hc⟩
theorem RowB.add {w : World} {b off : Nat} {xs : List Value} (h : RowB w b off xs) : ∀ (j : Nat) (u : Value), xs[j]? = some u → w.cell? ((⟨b, off, none⟩ : Addr).add j) = some u :=
  fun j u hu => by rw [add_at]; exact h.2 j u hu

set_option maxRecDepth 100000 in
set_option maxHeartbeats 400000 in
theorem clone_any (b off c n : Nat) (xs : List Value) (w : World) (hn : n ≤ 65536) (hl : xs.length = n * 2) (h1 : oneCells xs) (hx : RowB w b off xs) :
    Calls Try.prog 91 #[.slice (some ⟨b, off, none⟩) n c] w fun e w' => ∃ v, e = .returned v ∧ w'.ownsRow w.heap.size 89 2 v n xs ∧ Below w.heap.size w w' := by
  obtain ⟨i0, hi0, hz0, hz1, hz2⟩ := info_parts fracInfo
  have hnil := fun (W : World) => Lib.run_eql_slice_nil (P := Try.prog) W 91 89 (some ⟨b, off, none⟩) n c 0 0 Try.underlying91
  have hx1 := (hx.alloc (Obj.cells #[] 89)).add
  have e1 : 0 + n ≤ maxLen := by unfold maxLen; omega
  have e2 : (0 + n) * 16 ≤ 140737488355328 := by omega
  have e3 : w.heap.size ≤ (w.alloc (Obj.cells #[] 89)).heap.size := by simp
  have E := Lib.hid (And.intro hx1 (And.intro h1 (And.intro e1 (And.intro e2 e3))))
  clear hx1 h1 e1 e2 e3 hx
  go_enter Try.func91, Try.ntmps91
  go_wp2_with (at_builtin; refine wpList_append_own _ rfl _ _ 91 rfl w.heap.size 89 i0 _ 2 16 Try.underlying91 hi0 hz0 hz1 hz2 rfl (by decide) _ _ _ rfl (World.ownsRow_made w #[] 0 (Nat.le_refl _) (Nat.zero_le _) rfl) ⟨b, off, none⟩ n c xs rfl hl E.out.1 E.out.2.1 E.out.2.2.1 E.out.2.2.2.1 E.out.2.2.2.2 ?_; intro v w1 hown hg _)
  go_ret
  refine ⟨v, rfl, by simpa using hown, ((Below.refl _ _).alloc (Nat.le_refl _) (.cells #[] 89)).grown hg (by simp) ?_⟩
  intro k hk
  have : w.heap.size = k := by injection hk
  omega

end Go.Proofs.Ytheifigkclegdaa
