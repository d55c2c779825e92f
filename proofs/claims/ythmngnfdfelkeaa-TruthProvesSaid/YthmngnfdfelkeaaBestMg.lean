/-
  What is proved: the contracts of slices.Clone and of best.
-/
import Derived.Test.YthmngnfdfelkeaaMg7
namespace Go.Proofs.Ythmngnfdfelkeaa
open Go.RowKit Go.Shelf
attribute [local go_sem] Oper.semAt_some
attribute [local go_sem ↓] max_int min_int

set_option maxRecDepth 100000 in
set_option maxHeartbeats 400000 in
theorem clone_any (b off c : Nat) (xs : List Int) (w : World) (hn : xs.length ≤ 65536) (hx : RowB w b off (intCells xs)) :
    Calls Try.prog 110 #[.slice (some ⟨b, off, none⟩) xs.length c] w fun e w' => ∃ v, e = .returned v ∧ w'.ownsRow w.heap.size 3 1 v xs.length (intCells xs) ∧ Below w.heap.size w w' := by
  obtain ⟨i0, hi0, hz0, hz1, hz2⟩ := info_parts intInfo
  have hnil := fun (W : World) => Lib.run_eql_slice_nil (P := Try.prog) W 22 3 (some ⟨b, off, none⟩) xs.length c 0 0 Try.underlying22
  have hx1 := (hx.alloc (Obj.cells #[] 3)).add
  have h1 : ∀ u ∈ intCells xs, u.oneCell' = true := by
    intro u hu
    obtain ⟨x, _, rfl⟩ := List.mem_map.1 hu
    rfl
  have e1 : 0 + xs.length ≤ maxLen := by unfold maxLen; omega
  have e2 : (0 + xs.length) * 8 ≤ 140737488355328 := by omega
  have e3 : w.heap.size ≤ (w.alloc (Obj.cells #[] 3)).heap.size := by simp
  have hl : (intCells xs).length = xs.length * 1 := by rw [intCells_len]; omega
  have E := Lib.hid (And.intro hx1 (And.intro h1 (And.intro e1 (And.intro e2 (And.intro e3 hl)))))
  clear hx1 h1 e1 e2 e3 hx hl
  go_enter Try.func110, Try.ntmps110
  go_wp2_with (at_builtin; refine wpList_append_own _ rfl _ _ 22 rfl w.heap.size 3 i0 _ 1 8 Try.underlying22 hi0 hz0 hz1 hz2 rfl (by decide) _ _ _ rfl (World.ownsRow_made w #[] 0 (Nat.le_refl _) (Nat.zero_le _) rfl) ⟨b, off, none⟩ xs.length c (intCells xs) rfl E.out.2.2.2.2.2 E.out.1 E.out.2.1 E.out.2.2.1 E.out.2.2.2.1 E.out.2.2.2.2.1 ?_; intro v w1 hown hg _)
  go_ret
  refine ⟨v, rfl, by simpa using hown, ((Below.refl _ _).alloc (Nat.le_refl _) (.cells #[] 3)).grown hg (by simp) ?_⟩
  intro k hk
  have : w.heap.size = k := by injection hk
  omega

theorem all_any (g : Nat) (w : World) :
    Calls Try.prog 108 #[.pointer (some ⟨g, 0, none⟩)] w fun e w' => e = .returned (.func (.func 130) #[] #[.pointer (some ⟨w.heap.size, 0, none⟩)]) ∧ w' = w.alloc (.cells #[.pointer (some ⟨g, 0, none⟩)] 82) := by
  go_enter Try.func108, Try.ntmps108
  go_wp2
  go_ret
  exact ⟨rfl, rfl⟩

/-- How many of the first k leads balance; the first with the least sum among them. -/
def leadN (s : Stn) (k : Nat) : List Int := toI (leadAt (mosts s) k)
def sumL (l : List Int) : Int := sumF l l.length
def manyN (s : Stn) : Nat → Nat
  | 0 => 0
  | k + 1 => if stillB s (leadN s k) then manyN s k + 1 else manyN s k
def bestL (s : Stn) : Nat → List Int
  | 0 => []
  | k + 1 => if stillB s (leadN s k) then (if manyN s k = 0 ∨ sumL (leadN s k) < sumL (bestL s k) then leadN s k else bestL s k) else bestL s k

theorem bestL_of (s : Stn) : ∀ k, bestL s k = [] ∨ ∃ j, j < k ∧ bestL s k = leadN s j
  | 0 => .inl rfl
  | k + 1 => by
    have ih := bestL_of s k
    have ih' : bestL s k = [] ∨ ∃ j, j < k + 1 ∧ bestL s k = leadN s j := by
      rcases ih with h | ⟨j, h1, h2⟩
      · exact .inl h
      · exact .inr ⟨j, by omega, h2⟩
    simp only [bestL]
    split
    · split
      · exact .inr ⟨k, by omega, rfl⟩
      · exact ih'
    · exact ih'

theorem manyN_le (s : Stn) : ∀ k, manyN s k ≤ k
  | 0 => Nat.le_refl _
  | k + 1 => by have := manyN_le s k; simp only [manyN]; split <;> omega

/-- What a round keeps: its own book-keeping, the iterator's box and row. -/
def Kept3 (w : World) (BX : Nat) (W W' : World) : Prop := W.heap.size ≤ W'.heap.size ∧ ∀ b, b = BX ∨ (w.heap.size ≤ b ∧ b ≤ w.heap.size + 2) → W'.heap[b]? = W.heap[b]?

def ledPost (w : World) (BX : Nat) (I : World → Prop) (W : World) : Exit → Act → World → Prop
  | .normal, _, W' => Kept3 w BX W W' ∧ I W'
  | _, _, _ => False

theorem Kept3.set {w W W' : World} {BX : Nat} (h : Kept3 w BX W W') (p : Addr) (v : Value) (hp : p.block ≠ BX) (hp2 : p.block < w.heap.size) : Kept3 w BX W (W'.setCell p v) :=
  ⟨by simpa using h.1, fun b hb => (Below.heap_setCell W' p v b (by rcases hb with hb | hb <;> omega)).trans (h.2 b hb)⟩
theorem Kept3.drew {w W W' : World} {BX : Nat} (h : Kept3 w BX W W') : Kept3 w BX W W'.drew := h
theorem Kept3.below {w W W' W2 : World} {BX : Nat} (h : Kept3 w BX W W') (h1 : BX < W.heap.size) (h2 : w.heap.size + 2 < W.heap.size) (hb : Below W'.heap.size W' W2) : Kept3 w BX W W2 :=
  ⟨Nat.le_trans h.1 hb.size, fun b hb' => (hb.block b (by have := h.1; rcases hb' with hb' | hb' <;> omega)).trans (h.2 b hb')⟩

set_option maxHeartbeats 1000000 in
/-- A loop over an iterator that keeps its state in one block of its own: no round leaves early. -/
theorem range_led {n : Nat} (h1 : 1 ≤ n) {g : Operand} {ps : Array Tmp} {assign body : Code} {Q : Exit → Act → World → Prop} {a : Act} {w : World} {gf : Nat} {lb : Array Value}
    (hg : a.eval g = .func (.func gf) #[] lb) (eg : ∀ args w, (callFunc gf args).run Try.prog w = .ok (.enter gf args) w) (hps : ps.size = 1) (N BX : Nat) (hBX : BX < w.heap.size) (vs : Value) (I Row : Nat → World → Prop)
    (hseq : ∀ (l : Nat) (J : Nat → World → Prop) (W : World), Below w.heap.size w W → W.heap.size = w.heap.size + 2 → (∀ k W1, J k W1 → I k W1) →
      (∀ k W1 W2 row, J k W1 → W1.grownBy W2 row → (∀ r, row = some r → r = w.heap.size + 2) → J k W2) →
      (∀ k W1, J k W1 → k < N → Row k W1 → YieldAt Fence.wide (n - 1 - 1) Try.prog l #[vs] W1 fun e W' => e = .returned (.bool true) ∧ J (k + 1) W' ∧ KeepB BX (w.heap.size + 2) W1 W') →
      J 0 W → CallsIn Fence.wide (n - 1) Try.prog gf (#[.func (.yield l) #[] #[]] ++ lb) W fun e W' => (∃ v, e = .returned v) ∧ J N W')
    (hI : ∀ k W1 W2 row, I k W1 → W1.grownBy W2 row → (∀ r, row = some r → w.heap.size ≤ r ∧ r ≤ w.heap.size + 2) → I k W2)
    (hRow : ∀ k W1 W2 row, Row k W1 → W1.grownBy W2 row → (∀ r, row = some r → r ≠ w.heap.size + 2) → Row k W2)
    (h0 : I 0 w) (a₁ : Act)
    (hassign : ∀ (l : Nat) (W : World) (K : Act → World → Prop), K a₁ W → assign.wpIn (Fence.wide.inRound l) (n - 1 - 1) Try.prog (Exit.then K (fun _ _ _ => False)) { tmps := (ps.zip #[vs]).foldl (fun t (p, v) => t.setIfInBounds p v) a.tmps, defers := [] } W)
    (hbody : ∀ (l k : Nat) (W : World), I k W → k < N → Row k W → body.wpIn (Fence.wide.inRound l) (n - 1 - 1) Try.prog (ledPost w BX (I (k + 1)) W) a₁ W)
    (hdone : ∀ W : World, I N W → W.heap[w.heap.size]? = some (.deferred (some [])) → Q .normal { a with defers := { target := .collected w.heap.size, args := #[] } :: a.defers } W) :
    (Code.rangeFunc g ps assign body).wpIn Fence.wide n Try.prog Q a w := by
  refine wpIn_rangeFunc ?_
  intro fn hfn
  obtain ⟨rec, hrec⟩ : ∃ rec : LoopState → Option Code → Loop, rec = fun st pe => { state := st, pending := pe, fn, tmps := a.tmps, params := ps, assign, body, defers := w.heap.size } := ⟨_, rfl⟩
  obtain ⟨W1, hW1⟩ : ∃ W1, (w.alloc (.deferred (some []))).alloc (.loop (rec .ready none)) = W1 := ⟨_, rfl⟩
  have hL1 : W1.heap[w.heap.size + 1]? = some (.loop (rec .ready none)) := by
    rw [← hW1]; have := World.alloc_heap_new (w.alloc (.deferred (some []))) (.loop (rec .ready none)); rwa [World.size_alloc] at this
  have hK1 : W1.heap[w.heap.size]? = some (.deferred (some [])) := by
    rw [← hW1]; exact (Below.heap_alloc _ _ _ (by simp)).trans (World.alloc_heap_new w _)
  have hI1 : I 0 W1 := by
    rw [← hW1]
    exact hI _ _ _ none (hI _ _ _ none h0 (World.grownBy_alloc w _ none) (fun r e => by cases e)) (World.grownBy_alloc _ _ none) (fun r e => by cases e)
  have hb1 : Below w.heap.size w W1 := by
    rw [← hW1]; exact ((Below.refl _ w).alloc (Nat.le_refl _) _).alloc (by simp) _
  have hz1 : W1.heap.size = w.heap.size + 2 := by rw [← hW1]; simp
  refine ⟨w.heap.size + 1, [{ target := .collected w.heap.size, args := #[] }], W1, { target := .fn (.func gf) lb, args := #[.func (.yield (w.heap.size + 1)) #[] #[]] }, W1, gf,
    #[.func (.yield (w.heap.size + 1)) #[] #[]] ++ lb, W1, ?_, ?_, ?_, ?_, fun _ => h1, ?_⟩
  · rw [← hW1, hrec]; exact run_enterLoop_outer _ _ _ _ _
  · simp only [resolve, hg]
    simp [go_sem]
  · intro f' hf'; trivial
  · simp [invoke, go_sem, eg]
  · refine (hseq (w.heap.size + 1)
      (fun k W => I k W ∧ W.heap[w.heap.size + 1]? = some (.loop (rec .ready none)) ∧ W.heap[w.heap.size]? = some (.deferred (some [])))
      W1 hb1 hz1 (fun k W h => h.1) ?_ ?_ ⟨hI1, hL1, hK1⟩).mono ?_
    · rintro k A B row ⟨hi, hl, hk⟩ hg' hr
      refine ⟨hI k A B row hi hg' (fun r e => by have := hr r e; omega), ?_, ?_⟩
      · exact (hg'.block _ (Array.getElem?_eq_some_iff.1 hl).1 (fun e => by have := hr _ e.symm; omega)).trans hl
      · exact (hg'.block _ (Array.getElem?_eq_some_iff.1 hk).1 (fun e => by have := hr _ e.symm; omega)).trans hk
    · rintro k W ⟨hi, hl, hk⟩ hlen hrow
      have hlt : w.heap.size + 1 < W.heap.size := (Array.getElem?_eq_some_iff.1 hl).1
      have hy := run_yield (P := Try.prog) (args := #[vs]) hl (by rw [hrec]; simp [hps])
      rw [hrec] at hy
      refine ⟨fn, _, assign, body, hy, roundIn_of_wpIn hfn (hassign _ W _ ⟨_, run_beginRound hl (by rw [hrec]), ?_⟩)⟩
      have hl2 : (W.putObj (w.heap.size + 1) (.loop { rec .ready none with state := .busy })).heap[w.heap.size + 1]? = some (.loop { rec .ready none with state := .busy }) := World.putObj_heap_same hlt
      have hk2 : (W.putObj (w.heap.size + 1) (.loop { rec .ready none with state := .busy })).heap[w.heap.size]? = some (.deferred (some [])) := (World.putObj_heap_other (by omega)).trans hk
      have hi2 : I k (W.putObj (w.heap.size + 1) (.loop { rec .ready none with state := .busy })) := hI k W _ (some (w.heap.size + 1)) hi (grownBy_putObj' _ _ _) (fun r e => by injection e with e; omega)
      have hr2 : Row k (W.putObj (w.heap.size + 1) (.loop { rec .ready none with state := .busy })) := hRow k W _ (some (w.heap.size + 1)) hrow (grownBy_putObj' _ _ _) (fun r e => by injection e with e; omega)
      refine wpIn_mono (hbody _ k _ hi2 hlen hr2) ?_
      rintro e a3 W3 hp
      cases e with
      | normal =>
        obtain ⟨⟨hz3, hk3⟩, hi3⟩ := hp
        have hl3 := (hk3 (w.heap.size + 1) (.inr ⟨by omega, by omega⟩)).trans hl2
        have hd3 := (hk3 w.heap.size (.inr ⟨by omega, by omega⟩)).trans hk2
        have hr := run_endRound (P := Try.prog) none hl3
        rw [hrec] at hr
        have hz3' : W.heap.size ≤ W3.heap.size := by simpa using hz3
        refine ⟨_, _, hr, rfl, ⟨hI (k + 1) W3 _ (some (w.heap.size + 1)) hi3 (grownBy_putObj' _ _ _) (fun r e => by injection e with e; omega), ?_, (World.putObj_heap_other (by omega)).trans hd3⟩, ?_, ?_, ?_⟩
        · rw [hrec]
          exact World.putObj_heap_same (by omega)
        · simpa using hz3'
        · rw [World.putObj_heap_other (by omega), hk3 BX (.inl rfl), World.putObj_heap_other (by omega)]
        · rw [World.putObj_heap_other (by omega), hk3 (w.heap.size + 2) (.inr ⟨by omega, by omega⟩), World.putObj_heap_other (by omega)]
      | ret => exact hp.elim
      | exit id => exact hp.elim
      | goto t => exact hp.elim
      | panic ch => exact hp.elim
      | outgrown => exact hp.elim
    · rintro e W2 ⟨⟨v, rfl⟩, hi, hl, hk⟩
      refine ⟨none, _, by have := run_endLoop (P := Try.prog) hl (by rw [hrec]; simp); rw [hrec] at this; exact this, hdone _ ?_ ((World.putObj_heap_other (by omega)).trans hk)⟩
      exact hI N W2 _ (some (w.heap.size + 1)) hi (grownBy_putObj' _ _ _) (fun r e => by injection e with e; omega)

set_option maxRecDepth 100000 in
set_option maxHeartbeats 8000000 in
theorem best_any (g : Nat) (s : Stn) (z : Loc) (w : World) (R : Bk w g 98 (s.cells z ++ runM s)) (hs : StAt w s z) (hok : s.ok = true) (hN : prodM (mosts s) ≤ 200000) :
    Calls Try.prog 65 #[.pointer (some ⟨g, 0, none⟩)] w fun e w' => ∃ v, e = .returned (.tuple #[v, .int .i64 (manyN s (prodM (mosts s)))]) ∧ w'.ownsRow w.heap.size 3 1 v (bestL s (prodM (mosts s))).length (intCells (bestL s (prodM (mosts s)))) ∧ Below w.heap.size w w' := by
  refine (callsIn_wide (n := 3)).1 ?_
  refine callsIn_of_wp_marks Try.func65 rfl trivial ?_ rfl
  simp only [Try.ntmps65, List.size_toArray, List.length_cons, List.length_nil, Nat.reduceAdd, Nat.reduceSub, Array.replicate_succ, Array.replicate_zero, List.push_toArray, List.append_toArray, List.nil_append, List.cons_append]
  refine wpIn_wide.2 ?_
  go_wp2_with (go_at_call 108; refine (all_any _ _).mono ?_; rintro e w' ⟨rfl, rfl⟩)
  obtain ⟨U, hU⟩ : ∃ U, (((w.alloc (.cells #[.pointer (some ⟨g, 0, none⟩)] 82)).alloc (.cells #[.slice none 0 0] 22)).alloc (.cells #[.int .i64 0] 3)).alloc (.cells #[.pointer (some ⟨g, 0, none⟩)] 82) = U := ⟨_, rfl⟩
  have hUz : U.heap.size = w.heap.size + 4 := by rw [← hU]; simp
  have B0 : Bk U w.heap.size 82 #[.pointer (some ⟨g, 0, none⟩)] := by rw [← hU]; exact (((bk_last rfl).alloc _).alloc _).alloc _
  have B1 : Bk U (w.heap.size + 1) 22 #[.slice none 0 0] := by rw [← hU]; exact ((bk_last (by simp)).alloc _).alloc _
  have B2 : Bk U (w.heap.size + 1 + 1) 3 #[.int .i64 0] := by rw [← hU]; exact (bk_last (by simp)).alloc _
  have B3 : Bk U (w.heap.size + 1 + 1 + 1) 82 #[.pointer (some ⟨g, 0, none⟩)] := by rw [← hU]; exact bk_last (by simp)
  have hBU : Below w.heap.size w U := by rw [← hU]; exact ((((Below.refl _ _).alloc (Nat.le_refl _) _).alloc (by simp) _).alloc (by simp; omega) _).alloc (by simp; omega) _
  rw [hU]
  have hgl := R.lt
  have hin := fun {k : Nat} (h : k < prodM (mosts s)) => leadAt_in h
  have hlp : ∀ k, k < prodM (mosts s) → leadP s (leadN s k) := fun k hk => by
    have hl : (leadN s k).length = s.pockets.length := by rw [leadN, toI_len, leadAt_len, mosts_len]
    refine ⟨hl, fun i hi => ?_⟩
    have := inM_get (hin hk) i (by rw [leadAt_len, mosts_len]; omega)
    rw [mosts_get hok (by omega), leadN, toI_get]
    omega
  have hpl := (stn_ok hok).2.2.2.2.1
  have HUz := Lib.hid hUz
  clear hU
  refine (wpIn_wide (n := 3)).1 ?_
  refine range_led (by omega) (gf := 130) (lb := #[.pointer (some ⟨w.heap.size + 1 + 1 + 1, 0, none⟩)]) rfl (enters_of Try.func130 (by kernel_rfl) rfl) rfl (prodM (mosts s)) (w.heap.size + 1 + 1 + 1) (by omega)
    (.slice (some ⟨U.heap.size + 2, 0, none⟩) s.pockets.length s.pockets.length)
    (fun k W => Below w.heap.size w W ∧ Bk W w.heap.size 82 #[.pointer (some ⟨g, 0, none⟩)] ∧ (∃ v, Bk W (w.heap.size + 1) 22 #[v] ∧ W.ownsRow (U.heap.size + 3) 3 1 v (bestL s k).length (intCells (bestL s k))) ∧ Bk W (w.heap.size + 1 + 1) 3 #[.int .i64 (manyN s k)] ∧ Bk W (w.heap.size + 1 + 1 + 1) 82 #[.pointer (some ⟨g, 0, none⟩)])
    (fun k W => W.ownsRow (U.heap.size + 2) 3 1 (.slice (some ⟨U.heap.size + 2, 0, none⟩) s.pockets.length s.pockets.length) s.pockets.length (intCells (leadN s k)))
    ?seq ?hI ?hRow ⟨hBU, B0, ⟨_, B1, World.ownsRow_nil _ _ _ _⟩, B2, B3⟩ { tmps := #[.pointer (some ⟨g, 0, none⟩), .pointer (some ⟨w.heap.size, 0, none⟩), .pointer (some ⟨w.heap.size + 1, 0, none⟩), .pointer (some ⟨w.heap.size + 1 + 1, 0, none⟩), .slice (some ⟨U.heap.size + 2, 0, none⟩) s.pockets.length s.pockets.length, .pointer (some ⟨g, 0, none⟩), .func (.func 130) #[] #[.pointer (some ⟨w.heap.size + 1 + 1 + 1, 0, none⟩)], .slice (some ⟨U.heap.size + 2, 0, none⟩) s.pockets.length s.pockets.length, undef, undef, undef, undef, undef, undef, undef, undef, undef, undef, undef, undef, undef, undef, undef, undef, undef, undef, undef], defers := [] } ?assign ?body ?done
  case seq =>
    intro l J W hW hWz hJI hJ hY h0
    obtain ⟨hB, _, _, _, hb3⟩ := hJI _ _ h0
    refine all1_in (3 - 1) l (w.heap.size + 1 + 1 + 1) g s z _ w W hgl R hs hok hb3 hB J (fun k W1 h => (hJI k W1 h).1) (fun k W1 W2 row h hg hr => hJ k W1 W2 row h hg (fun r e => by rw [hr r e, hWz])) ?_ h0
    intro k W1 h hk hlt hown
    rw [hWz] at hown ⊢
    exact hY k W1 h hk hown
  case hI =>
    rintro k W1 W2 row ⟨hB, b0, ⟨v, b1, ho⟩, b2, b3⟩ hg hr
    refine ⟨hB.grown hg hB.size (fun r e => by have := hr r e; omega), b0.grown hg (fun e => by have := hr _ e.symm; omega), ⟨v, b1.grown hg (fun e => by have := hr _ e.symm; omega), ho.kept hg ?_⟩, b2.grown hg (fun e => by have := hr _ e.symm; omega), b3.grown hg (fun e => by have := hr _ e.symm; omega)⟩
    cases hv : v.ownBlock with
    | none => exact .inl rfl
    | some j =>
      refine .inr (fun e => ?_)
      have h1 := (ho.lt j hv).1
      have h2 := hr j e.symm
      omega
  case hRow =>
    rintro k W1 W2 row ho hg hr
    exact ho.kept hg (.inr (fun e => hr _ e.symm rfl))
  case assign =>
    clear hUz
    intro l W K hK
    gi_wp2
    exact hK
  case body =>
    clear hUz B0 B1 B2 B3 hBU
    rintro l k W ⟨hB, b0, ⟨v, b1, ho⟩, b2, b3⟩ hk hrow
    have hlen : (leadN s k).length = s.pockets.length := (hlp k hk).1
    have hsum : ∀ x ∈ leadN s k, -1000000000 ≤ x ∧ x ≤ 1000000000 := by
      intro x hx
      obtain ⟨i, hi, rfl⟩ := List.getElem_of_mem hx
      have h1 := (hlp k hk).2 i hi
      obtain ⟨_, _, _, _, _, _, _, _, hp⟩ := stn_ok hok
      have := (hp _ (getD_mem ((0, 0), 0) (show i < s.pockets.length by omega))).2.2
      rw [getD_get _ _ hi] at h1
      omega
    have hrl : RowAt W (some ⟨U.heap.size + 2, 0, none⟩) (intCells (leadN s k)) := by
      obtain ⟨A1, c1, e1, _, h, _⟩ := own_form hrow
      injection e1 with e1
      rw [e1]; exact h
    have HS := Lib.hid (still_any g (some ⟨U.heap.size + 2, 0, none⟩) s.pockets.length s z (leadN s k) W (R.below hB hgl) (hs.below hB) hok hrl (hlp k hk))
    rw [hlen] at HS
    have x0 := b0.cell 0
    simp at x0
    have Hsum := Lib.hid hsum
    have Hrow := Lib.hid hrow
    have Hrl := Lib.hid hrl
    clear hsum hrow hrl
    have hG : U.heap.size + 2 < W.heap.size := (Hrow.out.lt (U.heap.size + 2) rfl).2
    have hBX : w.heap.size + 1 + 1 + 1 < W.heap.size := b3.lt
    by_cases hst : stillB s (leadN s k) = true
    · rw [hst] at HS
      have HT := Lib.hid hst
      clear hst
      gi_wp2_with (refine ⟨trivial, ?_⟩; gi_at_call 109; refine (CallsIn.inRound l (callsIn_wide.2 HS.out)).mono ?_; rintro e W2 ⟨rfl, hb2⟩)
      have hk2 : Kept3 U (w.heap.size + 1 + 1 + 1) W W2 := Kept3.below ⟨Nat.le_refl _, fun _ _ => rfl⟩ hBX hG hb2
      have hB2 := hB.trans (hb2.mono hB.size)
      replace b0 := b0.keep hb2
      replace b1 := b1.keep hb2
      replace b2 := b2.keep hb2
      replace b3 := b3.keep hb2
      replace ho := own_keep ho hb2
      have hrow2 := own_keep Hrow.out hb2
      have hrl2 := Hrl.out.below hb2
      clear hb2 hB HS x0
      have x1 := b1.cell 0
      have x2 := b2.cell 0
      have y1 := b1.fz 0
      have y2 := b2.fz 0
      simp at x1 x2
      have HCl : Hid (∀ W' : World, W'.ownsRow (U.heap.size + 2) 3 1 (.slice (some ⟨U.heap.size + 2, 0, none⟩) s.pockets.length s.pockets.length) s.pockets.length (intCells (leadN s k)) → Calls Try.prog 110 #[.slice (some ⟨U.heap.size + 2, 0, none⟩) s.pockets.length s.pockets.length] W' fun e w' => ∃ v, e = .returned v ∧ w'.ownsRow W'.heap.size 3 1 v (leadN s k).length (intCells (leadN s k)) ∧ Below W'.heap.size W' w') := fun W' h => by
        have h2 := clone_any (U.heap.size + 2) 0 s.pockets.length (leadN s k) W' (by omega) (by rw [← hlen] at h; exact own_rowB h)
        rw [hlen] at h2 ⊢
        exact h2
      have hmix : Try.prog.follows .mixedOrders = true := by kernel_rfl
      by_cases hm : manyN s k = 0
      · have e1 : bestL s (k + 1) = leadN s k := by simp [bestL, HT.out, hm]
        have e2 : ((manyN s (k + 1) : Nat) : Int) = 1 := by simp [manyN, HT.out, hm]
        have HE := Lib.hid (And.intro e1 e2)
        rw [hm] at x2 b2
        simp at x2
        clear e1 e2 hm
        gi_region_with_o (refine ⟨trivial, ?_⟩)
        all_goals
          gi_wp2_with (refine ⟨trivial, ?_⟩; gi_at_call 110; refine (CallsIn.inRound l (callsIn_wide.2 (HCl.out _ hrow2.drew))).mono ?_; rintro e W3 ⟨v', rfl, ho3, hb3⟩; have z1 := (b1.drew.keep hb3).cell 0; have z2 := (b2.drew.keep hb3).cell 0; have z3 := (b1.drew.keep hb3).fz 0; have z4 := (b2.drew.keep hb3).fz 0; have z5 := (b1.drew.keep hb3).lt; have z6 := (b2.drew.keep hb3).lt; simp at z1 z2; obtain ⟨A3, c3, rfl, _, _, _⟩ := own_form ho3)
          unfold ledPost
          rw [HE.out.1, HE.out.2]
          have hU := HUz.out
          refine ⟨((hk2.drew.below hBX hG hb3).set _ _ (by simp) (by simp; omega)).set _ _ (by simp) (by simp; omega), ((hB2.drew.trans (hb3.mono (by have := hB2.size; simpa using this))).setCell (by simp <;> omega) _).setCell (by simp <;> omega) _, ((b0.drew.keep hb3).far (by simp <;> omega) _).far (by simp <;> omega) _, ⟨_, ((b1.drew.keep hb3).put 0 _).far (by simp <;> omega) _, ?_⟩, ((b2.drew.keep hb3).far (by simp <;> omega) _).put 0 _, ((b3.drew.keep hb3).far (by simp <;> omega) _).far (by simp <;> omega) _⟩
          have hno : ∀ j, j < U.heap.size + 3 → (Value.slice A3 (leadN s k).length c3).ownBlock ≠ some j := fun j hj e => by
            have h1 := (ho3.lt j e).1
            have := hk2.1
            simp at h1
            omega
          have ho4 : W3.ownsRow (U.heap.size + 3) 3 1 (.slice A3 (leadN s k).length c3) (leadN s k).length (intCells (leadN s k)) := own_base ho3 (by have := hk2.1; simp; omega)
          rw [hlen] at hno ho4 ⊢
          exact own_far (a := ⟨w.heap.size + 1 + 1, 0, none⟩) (own_far (a := ⟨w.heap.size + 1, 0, none⟩) ho4 (hno (w.heap.size + 1) (by omega)) _) (hno (w.heap.size + 1 + 1) (by omega)) _
      · have hm1 : ((manyN s k : Int) == 0) = false := by simp; omega
        have hmle := manyN_le s k
        obtain ⟨A1, c1, rfl, _, rl, _⟩ := own_form ho
        have hbl : (bestL s k).length ≤ 8 ∧ ∀ x ∈ bestL s k, -1000000000 ≤ x ∧ x ≤ 1000000000 := by
          rcases bestL_of s k with h | ⟨j, h1, h2⟩
          · rw [h]; simp
          · rw [h2]
            have h3 := hlp j (by omega)
            refine ⟨by rw [h3.1]; exact hpl, fun x hx => ?_⟩
            obtain ⟨i, hi, rfl⟩ := List.getElem_of_mem hx
            have h1 := h3.2 i hi
            obtain ⟨_, _, _, _, _, _, _, _, hp⟩ := stn_ok hok
            have := (hp _ (getD_mem ((0, 0), 0) (show i < s.pockets.length by have := h3.1; omega))).2.2
            rw [getD_get _ _ hi] at h1
            omega
        have H1 : Hid (∀ W' : World, RowAt W' (some ⟨U.heap.size + 2, 0, none⟩) (intCells (leadN s k)) → Calls Try.prog 62 #[.slice (some ⟨U.heap.size + 2, 0, none⟩) s.pockets.length s.pockets.length] W' fun e w' => e = .returned (.int .i64 (sumL (leadN s k))) ∧ W' = w') := fun W' h => by
          have h2 := total_any (some ⟨U.heap.size + 2, 0, none⟩) s.pockets.length (leadN s k) W' h (by omega) Hsum.out
          unfold sumL
          rw [hlen] at h2 ⊢
          exact h2
        have H2 : Hid (∀ W' : World, RowAt W' A1 (intCells (bestL s k)) → Calls Try.prog 62 #[.slice A1 (bestL s k).length c1] W' fun e w' => e = .returned (.int .i64 (sumL (bestL s k))) ∧ W' = w') := fun W' h => total_any A1 c1 (bestL s k) W' h (by omega) hbl.2
        have e2 : ((manyN s (k + 1) : Nat) : Int) = (manyN s k : Int) + 1 := by simp [manyN, HT.out]
        clear hbl
        by_cases hc : sumL (leadN s k) < sumL (bestL s k)
        · have e1 : bestL s (k + 1) = leadN s k := by simp [bestL, HT.out, hc]
          have HE := Lib.hid (And.intro e1 e2)
          clear e1 e2 hm
          generalize sumL (leadN s k) = u1 at *
          generalize sumL (bestL s k) = u2 at *
          gi_region_with_o (first | (refine ⟨trivial, ?_⟩; gi_at_call 62; refine (CallsIn.inRound l (callsIn_wide.2 (H1.out _ hrl2.drew_))).mono ?_; clear H1; rintro e W' ⟨rfl, rfl⟩) | (refine ⟨trivial, ?_⟩; gi_at_call 62; refine (CallsIn.inRound l (callsIn_wide.2 (H2.out _ rl.drew_))).mono ?_; clear H2; rintro e W' ⟨rfl, rfl⟩))
          all_goals
            gi_wp2_with (refine ⟨trivial, ?_⟩; gi_at_call 110; refine (CallsIn.inRound l (callsIn_wide.2 (HCl.out _ hrow2.drew))).mono ?_; rintro e W3 ⟨v', rfl, ho3, hb3⟩; have z1 := (b1.drew.keep hb3).cell 0; have z2 := (b2.drew.keep hb3).cell 0; have z3 := (b1.drew.keep hb3).fz 0; have z4 := (b2.drew.keep hb3).fz 0; have z5 := (b1.drew.keep hb3).lt; have z6 := (b2.drew.keep hb3).lt; simp at z1 z2; obtain ⟨A3, c3, rfl, _, _, _⟩ := own_form ho3)
            unfold ledPost
            rw [HE.out.1, HE.out.2]
            have hU := HUz.out
            refine ⟨((hk2.drew.below hBX hG hb3).set _ _ (by simp) (by simp; omega)).set _ _ (by simp) (by simp; omega), ((hB2.drew.trans (hb3.mono (by have := hB2.size; simpa using this))).setCell (by simp <;> omega) _).setCell (by simp <;> omega) _, ((b0.drew.keep hb3).far (by simp <;> omega) _).far (by simp <;> omega) _, ⟨_, ((b1.drew.keep hb3).put 0 _).far (by simp <;> omega) _, ?_⟩, ((b2.drew.keep hb3).far (by simp <;> omega) _).put 0 _, ((b3.drew.keep hb3).far (by simp <;> omega) _).far (by simp <;> omega) _⟩
            have hno : ∀ j, j < U.heap.size + 3 → (Value.slice A3 (leadN s k).length c3).ownBlock ≠ some j := fun j hj e => by
              have h1 := (ho3.lt j e).1
              have := hk2.1
              simp at h1
              omega
            have ho4 : W3.ownsRow (U.heap.size + 3) 3 1 (.slice A3 (leadN s k).length c3) (leadN s k).length (intCells (leadN s k)) := own_base ho3 (by have := hk2.1; simp; omega)
            rw [hlen] at hno ho4 ⊢
            exact own_far (a := ⟨w.heap.size + 1 + 1, 0, none⟩) (own_far (a := ⟨w.heap.size + 1, 0, none⟩) ho4 (hno (w.heap.size + 1) (by omega)) _) (hno (w.heap.size + 1 + 1) (by omega)) _
        · have e1 : bestL s (k + 1) = bestL s k := by simp [bestL, HT.out, hc, hm]
          have HE := Lib.hid (And.intro e1 e2)
          have hc2 : sumL (bestL s k) ≤ sumL (leadN s k) := by omega
          have hU := HUz.out
          have hno : ∀ j, j < U.heap.size + 3 → (Value.slice A1 (bestL s k).length c1).ownBlock ≠ some j := fun j hj e => by
            have h1 := (ho.lt j e).1
            omega
          clear e1 e2 hm hc hU
          generalize sumL (leadN s k) = u1 at *
          generalize sumL (bestL s k) = u2 at *
          gi_region_with_o (first | (refine ⟨trivial, ?_⟩; gi_at_call 62; refine (CallsIn.inRound l (callsIn_wide.2 (H1.out _ hrl2.drew_))).mono ?_; clear H1; rintro e W' ⟨rfl, rfl⟩) | (refine ⟨trivial, ?_⟩; gi_at_call 62; refine (CallsIn.inRound l (callsIn_wide.2 (H2.out _ rl.drew_))).mono ?_; clear H2; rintro e W' ⟨rfl, rfl⟩))
          all_goals
            gi_wp2
            have hU := HUz.out
            unfold ledPost
            rw [HE.out.1, HE.out.2]
            exact ⟨hk2.drew.set _ _ (by simp) (by simp; omega), hB2.drew.setCell (by simp <;> omega) _, b0.drew.far (by simp <;> omega) _, ⟨_, b1.drew.far (by simp <;> omega) _, own_far (a := ⟨w.heap.size + 1 + 1, 0, none⟩) ho.drew (hno (w.heap.size + 1 + 1) (by omega)) _⟩, b2.drew.put 0 _, b3.drew.far (by simp <;> omega) _⟩
    · have hst' : stillB s (leadN s k) = false := by simpa using hst
      rw [hst'] at HS
      have HF := Lib.hid hst'
      clear hst hst'
      gi_wp2_with (refine ⟨trivial, ?_⟩; gi_at_call 109; refine (CallsIn.inRound l (callsIn_wide.2 HS.out)).mono ?_; rintro e W2 ⟨rfl, hb2⟩)
      have hk2 : Kept3 U (w.heap.size + 1 + 1 + 1) W W2 := Kept3.below ⟨Nat.le_refl _, fun _ _ => rfl⟩ hBX hG hb2
      have e1 : bestL s (k + 1) = bestL s k := by simp [bestL, HF.out]
      have e2 : manyN s (k + 1) = manyN s k := by simp [manyN, HF.out]
      unfold ledPost
      rw [e1, e2]
      exact ⟨hk2, hB.trans (hb2.mono hB.size), b0.keep hb2, ⟨v, b1.keep hb2, own_keep ho hb2⟩, b2.keep hb2, b3.keep hb2⟩
  case done =>
    have hU := HUz.out
    clear HUz B0 B1 B2 B3 hBU
    rintro W ⟨hB, b0, ⟨v, b1, ho⟩, b2, b3⟩ hK
    have hK2 : W.heap[w.heap.size + 4]? = some (.deferred (some [])) := by rw [← hU]; exact hK
    rw [hU]
    obtain ⟨A1, c1, rfl, _, _, _⟩ := own_form ho
    have x1 := b1.cell 0
    have x2 := b2.cell 0
    have x3 := b1.fz 0
    have x4 := b2.fz 0
    have l1 := b1.lt
    have l2 := b2.lt
    simp at x1 x2
    have HP := Lib.hid (And.intro hB (And.intro b1 (And.intro ho (And.intro b2 hK2))))
    clear hB b0 b1 ho b2 b3 hK hK2
    gi_wp2
    go_wp2_with fail
    go_region
    all_goals go_wp2_with fail
    all_goals
      obtain ⟨hB, b1, ho, b2, hK⟩ := HP.out
      have c1' := ((b1.put 0 (.slice A1 (bestL s (prodM (mosts s))).length c1)).far (p := ⟨w.heap.size + 1 + 1, 0, none⟩) (by simp) (.int .i64 (manyN s (prodM (mosts s))))).drew
      have c2' := ((b2.far (p := ⟨w.heap.size + 1, 0, none⟩) (by simp) (.slice A1 (bestL s (prodM (mosts s))).length c1)).put 0 (.int .i64 (manyN s (prodM (mosts s))))).drew
      have hB' := ((hB.setCell (p := ⟨w.heap.size + 1, 0, none⟩) (by simp) (.slice A1 (bestL s (prodM (mosts s))).length c1)).setCell (p := ⟨w.heap.size + 1 + 1, 0, none⟩) (by simp; omega) (.int .i64 (manyN s (prodM (mosts s))))).drew
      have hno : ∀ j, j < U.heap.size + 3 → (Value.slice A1 (bestL s (prodM (mosts s))).length c1).ownBlock ≠ some j := fun j hj e => by
        have h1 := (ho.lt j e).1
        omega
      have ho' := (own_far (a := ⟨w.heap.size + 1 + 1, 0, none⟩) (own_far (a := ⟨w.heap.size + 1, 0, none⟩) ho (hno (w.heap.size + 1) (by omega)) (.slice A1 (bestL s (prodM (mosts s))).length c1)) (hno (w.heap.size + 1 + 1) (by omega)) (.int .i64 (manyN s (prodM (mosts s))))).drew
      have hK' : ((W.setCell ⟨w.heap.size + 1, 0, none⟩ (.slice A1 (bestL s (prodM (mosts s))).length c1)).setCell ⟨w.heap.size + 1 + 1, 0, none⟩ (.int .i64 (manyN s (prodM (mosts s))))).drew.heap[w.heap.size + 4]? = some (.deferred (some [])) :=
        ((Below.heap_setCell _ ⟨w.heap.size + 1 + 1, 0, none⟩ _ _ (by simp)).trans (Below.heap_setCell _ ⟨w.heap.size + 1, 0, none⟩ _ _ (by simp))).trans hK
      generalize ((W.setCell ⟨w.heap.size + 1, 0, none⟩ (.slice A1 (bestL s (prodM (mosts s))).length c1)).setCell ⟨w.heap.size + 1 + 1, 0, none⟩ (.int .i64 (manyN s (prodM (mosts s))))).drew = F at *
      refine ⟨by simp, .inl ⟨_, _, rfl, run_takeDeferred hK', ?_⟩⟩
      have d1 : Bk (F.putObj (w.heap.size + 4) (.deferred none)) (w.heap.size + 1) 22 _ := (World.putObj_heap_other (by omega)).trans c1'
      have d2 : Bk (F.putObj (w.heap.size + 4) (.deferred none)) (w.heap.size + 1 + 1) 3 _ := (World.putObj_heap_other (by omega)).trans c2'
      have e1 := d1.cell 0
      have e2 := d2.cell 0
      simp at e1 e2
      refine ⟨_, ?_, .slice A1 (bestL s (prodM (mosts s))).length c1, rfl, own_base (ho'.kept (grownBy_putObj' _ _ _) (.inr (hno (w.heap.size + 4) (by omega)))) (by omega), hB'.grown (grownBy_putObj' _ _ _) hB'.size (fun r e => by injection e with e; omega)⟩
      simp [results, Try.results65, go_sem, e1, e2]

end Go.Proofs.Ythmngnfdfelkeaa
