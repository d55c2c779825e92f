/-
  What is proved: the contract of fill (the closure of filled that calls itself).
-/
import Derived.Test.YtkikjmkpndmdcaaSpans
import Derived.RegionTactic
import Derived.Deep.DeepCutAuto
import Derived.Deep.RegionHeld3
namespace Go.Proofs.Ytkikjmkpndmdcaa
open Go.RowKit Go.Shelf
attribute [local go_sem ↓] max_int min_int
attribute [local go_sem] Oper.semAt_some

structure FilLoc where
  N : Nat
  n : Nat
  b : Nat
  cf : Nat
  Bf : Nat
  Bk : Nat
  Bl : Nat
  Bv : Nat
  Bo : Nat
  Bg : Nat
  Bc : Nat
  gk : Nat
  go : Nat
def FilLoc.caps (L : FilLoc) : Array Value := #[.pointer (some ⟨L.Bf, 0, none⟩), .pointer (some ⟨L.Bk, 0, none⟩), .pointer (some ⟨L.Bl, 0, none⟩), .pointer (some ⟨L.Bv, 0, none⟩), .pointer (some ⟨L.Bo, 0, none⟩)]
structure FilLoc.Ok (L : FilLoc) : Prop where
  n1 : L.n ≤ L.gk
  n2 : L.n ≤ L.go
/-- The table that is filled: what is known, and the sums. -/
structure FilAt (L : FilLoc) (sp : List (Int × Int)) (kn : List Bool) (W : World) : Prop where
  bf : Bk W L.Bf 65 #[.pointer (some ⟨L.b, 0, none⟩)]
  bk : Bk W L.Bk 104 #[.slice (some ⟨L.gk, 0, none⟩) L.N L.N]
  bl : Bk W L.Bl 138 #[.func (.func 84) #[] L.caps]
  bv : Bk W L.Bv 129 #[.func (.func 72) #[] #[.pointer (some ⟨L.Bg, 0, none⟩), .pointer (some ⟨L.Bc, 0, none⟩)]]
  bo : Bk W L.Bo 103 #[.slice (some ⟨L.go, 0, none⟩) L.N L.N]
  bg : Bk W L.Bg 65 #[.pointer (some ⟨L.b, 0, none⟩)]
  bc : Bk W L.Bc 75 #[.func (.func L.cf) #[] #[]]
  rk : Bk W L.gk 4 (boolCells kn).toArray
  ro : Bk W L.go 42 (spCells sp).toArray
  lk : kn.length = L.N
  lo : sp.length = L.N
theorem FilAt.grown {L : FilLoc} {sp : List (Int × Int)} {kn : List Bool} {W W' : World} {row : Option Nat} (h : FilAt L sp kn W) (hg : W.grownBy W' row) (hr : ∀ r, row = some r → ∃ o : Obj, W.heap[r]? = some o ∧ o.isCells = false) : FilAt L sp kn W' := by
  have key : ∀ {q : Nat} {t : TypeId} {cs : Array Value}, Go.Proofs.Ytkikjmkpndmdcaa.Bk W q t cs → some q ≠ row := fun hq e => by
    obtain ⟨o, ho, hc⟩ := hr _ e.symm
    unfold Go.Proofs.Ytkikjmkpndmdcaa.Bk at hq
    rw [hq] at ho
    cases ho
    cases hc
  exact ⟨h.bf.grown hg (key h.bf), h.bk.grown hg (key h.bk), h.bl.grown hg (key h.bl), h.bv.grown hg (key h.bv), h.bo.grown hg (key h.bo), h.bg.grown hg (key h.bg), h.bc.grown hg (key h.bc), h.rk.grown hg (key h.rk), h.ro.grown hg (key h.ro), h.lk, h.lo⟩
theorem FilAt.below {L : FilLoc} {sp : List (Int × Int)} {kn : List Bool} {W W' : World} (h : FilAt L sp kn W) (hb : Below W.heap.size W W') : FilAt L sp kn W' :=
  h.grown (row := none) ⟨hb.os, hb.tape, hb.output, hb.size, fun k hk _ => hb.block k hk⟩ (fun r e => by cases e)
theorem spCells_set (l : List (Int × Int)) (i : Nat) (hi : i < l.length) (x : Int × Int) : ((spCells l).toArray.setIfInBounds (i * 2) (.int .i64 x.1)).setIfInBounds (i * 2 + 1) (.int .i64 x.2) = (spCells (l.set i x)).toArray := by
  induction l generalizing i with
  | nil => simp at hi
  | cons y l ih =>
    cases i with
    | zero => simp [spCells]
    | succ i =>
      have h := ih i (by simpa using hi)
      simp only [List.setIfInBounds_toArray] at h ⊢
      congr 1
      have h := congrArg Array.toList h
      simp only at h
      simp only [spCells, List.flatMap_cons, List.set_cons_succ, List.cons_append, List.nil_append] at h ⊢
      rw [show (i + 1) * 2 = i * 2 + 1 + 1 by omega, show i * 2 + 1 + 1 + 1 = (i * 2 + 1) + 1 + 1 by omega]
      simp only [List.set_cons_succ]
      rw [h]
theorem FilAt.put {L : FilLoc} {sp : List (Int × Int)} {kn : List Bool} {W : World} (h : FilAt L sp kn W) (i : Nat) (hi : i < L.N) (x : Int × Int) :
    FilAt L (sp.set i x) (kn.set i true) (((W.setCell ⟨L.go, i * 2, none⟩ (.int .i64 x.1)).setCell ⟨L.go, i * 2 + 1, none⟩ (.int .i64 x.2)).setCell ⟨L.gk, i, none⟩ (.bool true)) := by
  have f : ∀ {q : Nat} {t : TypeId} {cs : Array Value}, Go.Proofs.Ytkikjmkpndmdcaa.Bk W q t cs → t ≠ 42 → t ≠ 4 → Go.Proofs.Ytkikjmkpndmdcaa.Bk (((W.setCell ⟨L.go, i * 2, none⟩ (.int .i64 x.1)).setCell ⟨L.go, i * 2 + 1, none⟩ (.int .i64 x.2)).setCell ⟨L.gk, i, none⟩ (.bool true)) q t cs :=
    fun hq h1 h2 => ((hq.far (p := ⟨L.go, i * 2, none⟩) (hq.ne h.ro h1) _).far (p := ⟨L.go, i * 2 + 1, none⟩) (hq.ne h.ro h1) _).far (p := ⟨L.gk, i, none⟩) (hq.ne h.rk h2) _
  have hne := h.rk.ne h.ro (by decide)
  refine ⟨f h.bf (by decide) (by decide), f h.bk (by decide) (by decide), f h.bl (by decide) (by decide), f h.bv (by decide) (by decide), f h.bo (by decide) (by decide), f h.bg (by decide) (by decide), f h.bc (by decide) (by decide), ?_, ?_, by simp [h.lk], by simp [h.lo]⟩
  · have := (((h.rk.far (p := ⟨L.go, i * 2, none⟩) hne (.int .i64 x.1)).far (p := ⟨L.go, i * 2 + 1, none⟩) hne (.int .i64 x.2)).put i (.bool true))
    rw [List.setIfInBounds_toArray, boolCells_set] at this
    exact this
  · have := (((h.ro.put (i * 2) (.int .i64 x.1)).put (i * 2 + 1) (.int .i64 x.2)).far (p := ⟨L.gk, i, none⟩) (fun e => hne e.symm) (.bool true))
    rw [spCells_set _ _ (by rw [h.lo]; exact hi)] at this
    exact this

structure FilKeep (L : FilLoc) (W W' : World) : Prop where
  bel : Below L.n W W'
  block : ∀ k o, W.heap[k]? = some o → k ≠ L.gk → k ≠ L.go → W'.heap[k]? = some o
theorem FilKeep.refl (L : FilLoc) (W : World) : FilKeep L W W := ⟨Below.refl _ _, fun _ _ h _ _ => h⟩
theorem FilKeep.trans {L : FilLoc} {A B C : World} (h : FilKeep L A B) (k : FilKeep L B C) : FilKeep L A C := ⟨h.bel.trans k.bel, fun j o hj h1 h2 => k.block j o (h.block j o hj h1 h2) h1 h2⟩
theorem FilKeep.of_below {L : FilLoc} {W W' : World} (h : Below W.heap.size W W') (hn : L.n ≤ W.heap.size) : FilKeep L W W' :=
  ⟨h.mono hn, fun k o hk _ _ => (h.block k (Array.getElem?_eq_some_iff.1 hk).1).trans hk⟩
theorem FilKeep.set {L : FilLoc} (hL : L.Ok) {W : World} {p : Addr} (u : Value) (h : p.block = L.gk ∨ p.block = L.go) : FilKeep L W (W.setCell p u) :=
  ⟨(Below.refl _ _).setCell (by have := hL.n1; have := hL.n2; rcases h with h | h <;> rw [h] <;> assumption) u, fun k o hk h1 h2 => (Below.heap_setCell W p u k (by rcases h with h | h <;> rw [h] <;> assumption)).trans hk⟩
theorem FilKeep.grown {L : FilLoc} {A B C : World} {row : Option Nat} (h : FilKeep L A B) (hg : B.grownBy C row) (hn : L.n ≤ A.heap.size) (hr : ∀ r, row = some r → A.heap.size ≤ r) : FilKeep L A C :=
  ⟨h.bel.grown hg (Nat.le_trans hn h.bel.size) (fun r e => by have := hr r e; omega), fun k o hk h1 h2 => by
    have hlt := (Array.getElem?_eq_some_iff.1 hk).1
    exact (hg.block k (Nat.lt_of_lt_of_le hlt h.bel.size) (fun e => by have := hr k e.symm; omega)).trans (h.block k o hk h1 h2)⟩
theorem FilKeep.other {L : FilLoc} {sp : List (Int × Int)} {kn : List Bool} {W W' : World} (h : FilKeep L W W') (hs : FilAt L sp kn W) {k : Nat} {o : Obj} (hk : W.heap[k]? = some o)
    (ho : ∀ cs r, o ≠ .cells cs 4 r ∧ o ≠ .cells cs 42 r) : W'.heap[k]? = some o := by
  refine h.block k o hk ?_ ?_
  · rintro rfl
    have : W.heap[L.gk]? = some _ := hs.rk
    rw [this] at hk
    exact (ho _ _).1 (Option.some.inj hk).symm
  · rintro rfl
    have : W.heap[L.go]? = some _ := hs.ro
    rw [this] at hk
    exact (ho _ _).2 (Option.some.inj hk).symm
theorem FilKeep.others {L : FilLoc} {sp : List (Int × Int)} {kn : List Bool} {W W' : World} (h : FilKeep L W W') (hs : FilAt L sp kn W) : KeepsOthers W W' :=
  ⟨h.bel.size, fun k o hk ho => h.other hs hk (fun cs r => by
    refine ⟨?_, ?_⟩ <;> (intro e; subst e; cases ho))⟩
theorem FilKeep.kps {L : FilLoc} {sp : List (Int × Int)} {kn : List Bool} {W W' : World} (h : FilKeep L W W') (hs : FilAt L sp kn W) : KpS L.n W W' :=
  ⟨h.bel, fun k cs t r ht hk => h.other hs hk (fun cs' r' => by
    refine ⟨?_, ?_⟩ <;> (intro e; injection e with _ e _; rcases ht with rfl | rfl <;> exact absurd e (by decide)))⟩

theorem FilAt.ck {L : FilLoc} {sp : List (Int × Int)} {kn : List Bool} {W : World} (h : FilAt L sp kn W) {i : Nat} (hi : i < L.N) : W.cell? ⟨L.gk, i, none⟩ = some (.bool (kn.getD i false)) := by
  rw [h.rk.cell i]
  have := h.lk
  simp [boolCells, List.getD_eq_getElem?_getD, show i < kn.length by omega]

theorem far_cell {w : World} {b o : Nat} {v : Value} {p : Addr} (h : w.cell? ⟨b, o, none⟩ = some v) (hne : b ≠ p.block) (u : Value) : (w.setCell p u).cell? ⟨b, o, none⟩ = some v :=
  (World.cell?_of_block (a := ⟨b, o, none⟩) (Below.heap_setCell w p u b hne)).trans h
theorem far2 {w : World} {b o b' c d : Nat} {v u u' : Value} (h : w.cell? ⟨b, o, none⟩ = some v) (hne : b ≠ b') : ((w.setCell ⟨b', c, none⟩ u).setCell ⟨b', d, none⟩ u').cell? ⟨b, o, none⟩ = some v :=
  far_cell (far_cell h hne _) hne _
theorem far3 {w : World} {b o b' b2 c d e : Nat} {v u u' u2 : Value} (h : w.cell? ⟨b, o, none⟩ = some v) (hne : b ≠ b') (hn2 : b ≠ b2) : (((w.setCell ⟨b', c, none⟩ u).setCell ⟨b', d, none⟩ u').setCell ⟨b2, e, none⟩ u2).cell? ⟨b, o, none⟩ = some v :=
  far_cell (far2 h hne) hn2 _

def FillP (f : Flr) (cnt : Mv → Int) (L : FilLoc) (i : Nat) (kn : List Bool) (W : World) (e : Ending) (W' : World) : Prop :=
  ∃ sp' kn', (∃ v, e = .returned v) ∧ FilAt L sp' kn' W' ∧ FilKeep L W W' ∧ (∀ k, kn'.getD k false = true → ValS f cnt k (sp'.getD k (0, 0))) ∧ (∀ k, kn.getD k false = true → kn'.getD k false = true) ∧ kn'.getD i false = true

def ValCalls (f : Flr) (cnt : Mv → Int) (cf : Nat) : Prop :=
  ∀ (z : FLoc) (b i Bf Bc gof N : Nat) (sp : List (Int × Int)) (w : World), FlAt w b f z → f.Ok → i < f.R * f.S * f.S → N = f.R * f.S * f.S →
    Bk w Bf 65 #[.pointer (some ⟨b, 0, none⟩)] → Bk w Bc 75 #[.func (.func cf) #[] #[]] → Bk w gof 42 (spCells sp).toArray → sp.length = N →
    Calls Try.prog 72 #[.int .i64 i, .slice (some ⟨gof, 0, none⟩) N N, .pointer (some ⟨Bf, 0, none⟩), .pointer (some ⟨Bc, 0, none⟩)] w fun e w' =>
      e = .returned (.agg #[.int .i64 (spanL cnt (fun k => sp.getD k (0, 0)) (stepsL f i)).1, .int .i64 (spanL cnt (fun k => sp.getD k (0, 0)) (stepsL f i)).2]) ∧ Below w.heap.size w w'

set_option maxRecDepth 100000 in
set_option maxHeartbeats 8000000 in
theorem fill_any (f : Flr) (z : FLoc) (cnt : Mv → Int) (L : FilLoc) (w0 : World) (hL : L.Ok) (hval : ValCalls f cnt L.cf) (hf : FlAt w0 L.b f z) (hok : f.Ok) (hN : L.N = f.R * f.S * f.S) (hw0 : w0.heap.size = L.n) {i : Nat} (ha : AccS f i) :
    ∀ (sp : List (Int × Int)) (kn : List Bool) (W : World), i < L.N → FilAt L sp kn W → Below L.n w0 W → (∀ k, kn.getD k false = true → ValS f cnt k (sp.getD k (0, 0))) →
      Calls Try.prog 84 (#[.int .i64 i] ++ L.caps) W (FillP f cnt L i kn W) := by
  induction ha with
  | @mk i _ ih =>
    intro sp kn W hi h hB hinv
    rw [show #[Value.int .i64 i] ++ L.caps = #[.int .i64 i, .pointer (some ⟨L.Bf, 0, none⟩), .pointer (some ⟨L.Bk, 0, none⟩), .pointer (some ⟨L.Bl, 0, none⟩), .pointer (some ⟨L.Bv, 0, none⟩), .pointer (some ⟨L.Bo, 0, none⟩)] from rfl]
    have hnW : L.n ≤ W.heap.size := by have := hB.size; omega
    have hN1 : L.N ≤ 256 := by rw [hN]; exact Nat.mul_le_mul (Nat.mul_le_mul hok.r1 hok.s1) hok.s1
    have d0 := h.bf.cell 0
    simp at d0
    have HN := Lib.hid hN
    have HW0 := Lib.hid hw0
    have hH := Lib.hid h
    have HINV := Lib.hid hinv
    clear hN hw0 h hinv
    refine (callsIn_wide (n := 3)).1 ?_
    refine callsIn_of_wp_marks Try.func84 rfl trivial ?_ rfl
    simp only [Try.ntmps84, List.size_toArray, List.length_cons, List.length_nil, Nat.reduceAdd, Nat.reduceSub, Array.replicate_succ, Array.replicate_zero, List.push_toArray, List.append_toArray, List.nil_append, List.cons_append]
    refine wpIn_wide.2 ?_
    go_wp2_with (go_at_call 73; refine (steps_any L.b i _).mono ?_; rintro e w3 ⟨rfl, h65, h3, hb3⟩)
    have hS : Below L.n w0 w3 := hB.trans (hb3.mono hnW)
    have S3 := hH.out.below hb3
    have K3 : FilKeep L W w3 := .of_below hb3 hnW
    have hz3 : W.heap.size + 1 < w3.heap.size := h3.lt
    have K3s := K3.bel.size
    clear d0 hb3
    obtain ⟨q2, hq2⟩ : ∃ q2, W.heap.size = q2 := ⟨_, rfl⟩
    rw [hq2] at h65 h3 hz3
    rw [hq2]
    refine (wpIn_wide (n := 3)).1 ?_
    refine wpIn_rangeFunc_ownH rfl (by omega) (gf := 85) (lb := #[.pointer (some ⟨q2, 0, none⟩), .pointer (some ⟨q2 + 1, 0, none⟩)]) rfl trivial (enters_of Try.func85 (by kernel_rfl) rfl)
      (encs := stepEnc f i) (Kp := KpS L.n) (S := fun xs => xs = (stepsL f i).attach) (Sp := fun pre => pre <+: (stepsL f i).attach) (N := (stepsL f i).length) (w0 := w3)
      (steps1_stops (3 - 1) L.n L.b q2 (q2 + 1) f z i w0 w3 hf hok (by rw [← HN.out]; exact hi) HW0.out hS h65 h3)
      (fun h k => h.trans k) ?Kb (Below.refl _ _) (fun _ => rfl)
      (fun pre W' => ∃ sp' kn', FilAt L sp' kn' W' ∧ FilKeep L W W' ∧ (∀ k, kn'.getD k false = true → ValS f cnt k (sp'.getD k (0, 0))) ∧ (∀ k, kn.getD k false = true → kn'.getD k false = true) ∧ (∀ x ∈ pre, ∀ k, x.1.2 = some k → kn'.getD k false = true))
      (fun _ _ _ => False)
      ?I (fun _ _ _ _ _ h _ _ => h) ⟨sp, kn, S3, K3, HINV.out, fun _ h => h, by simp⟩
      (fun x a' _ => a' = { tmps := #[.int .i64 i, .pointer (some ⟨L.Bf, 0, none⟩), .pointer (some ⟨L.Bk, 0, none⟩), .pointer (some ⟨L.Bl, 0, none⟩), .pointer (some ⟨L.Bv, 0, none⟩), .pointer (some ⟨L.Bo, 0, none⟩), undef, undef, .int .i64 (nextV x.1.2), .pointer (some ⟨L.b, 0, none⟩), .int .i64 i, .func (.func 85) #[] #[.pointer (some ⟨q2, 0, none⟩), .pointer (some ⟨q2 + 1, 0, none⟩)], .agg #[.int .i64 x.1.1.out, .int .i64 x.1.1.side, .bool x.1.1.cut], .int .i64 (nextV x.1.2), undef, undef, undef, undef, undef, undef, undef, undef, undef, undef, undef, undef, undef, undef, undef, undef, undef, undef, undef, undef, undef, undef], defers := [] })
      ?Ax ?assign ?body ?done ?stop
    case Kb =>
      intro X l o o' hl hX hc _
      refine ⟨belowK_b (by have := hS.size; have := HW0.out; omega) X l o o' hl hX hc ‹_›, fun k cs t r _ hk => ?_⟩
      by_cases e : k = l
      · subst e
        rw [hk] at hX
        cases hX
        cases hc
      · exact (World.putObj_heap_other e).trans hk
    case I =>
      rintro pre X X' row ⟨sp', kn', h1, h2, h5, h6, h7⟩ hg hr
      exact ⟨sp', kn', h1.grown hg (fun r e => (hr r e).2), h2.grown hg hnW (fun r e => by have := (hr r e).1; omega), h5, h6, h7⟩
    case Ax => exact fun _ _ _ _ _ _ h _ _ => h
    case assign =>
      rintro l pre x X K hI hK
      unfold stepEnc
      gi_wp2
      exact hK _ _ (KeepsFrom.refl _ _) (KpS.refl _ _) hI rfl
    case body =>
      rintro l pre ⟨⟨m', o⟩, hx⟩ a' X hlz hrec ⟨sp', kn', h1, h2, h5, h6, h7⟩ rfl hlt
      have hnX : L.n ≤ X.heap.size := by have := h2.bel.size; omega
      clear hrec h65 h3 S3 K3
      simp only
      cases o with
      | none =>
        unfold nextV
        gi_wp2
        exact ⟨KeepsFrom.refl _ _, KpS.refl _ _, sp', kn', h1, h2, h5, h6, (fun x hx' k hk => by
          rcases List.mem_append.1 hx' with h | h
          · exact h7 x h k hk
          · rw [List.mem_singleton.1 h] at hk; cases hk)⟩
      | some k =>
        have hst : stepR f i k := ⟨_, hx⟩
        have hkN : k < L.N := by rw [HN.out]; exact step_lt hok (by rw [← HN.out]; exact hi) hst
        have hkI : (k : Int) < L.N := by omega
        have hk1 : ((k : Int) != -1) = true := by simp
        unfold nextV
        simp only
        have c0 := h1.bk.cell 0
        have c1 := h1.ck hkN
        have c2 := h1.bl.cell 0
        simp at c0 c2
        have H1 := Lib.hid h1
        have HI := Lib.hid (And.intro h5 (And.intro h6 h7))
        clear h1 h5 h6 h7
        cases hd : kn'.getD k false
        · rw [hd] at c1
          have HIH := Lib.hid (ih k hst sp' kn' X hkN H1.out (hB.trans h2.bel) HI.out.1)
          clear hd ih
          gi_wp2
          refine ⟨trivial, (CallsIn.inRound l (callsIn_wide.2 HIH.out)).mono ?_⟩
          clear HIH
          rintro e W8 ⟨sp8, kn8, ⟨v8, rfl⟩, S8, K8, A8, M8, T8⟩
          gi_wp2
          exact ⟨(K8.others H1.out).from _, K8.kps H1.out, sp8, kn8, S8, h2.trans K8, A8, fun j hj => M8 j (HI.out.2.1 j hj), (fun x hx' j hj => by
            rcases List.mem_append.1 hx' with h | h
            · exact M8 j (HI.out.2.2 x h j hj)
            · rw [List.mem_singleton.1 h] at hj; injection hj with hj; subst hj; exact T8)⟩
        · rw [hd] at c1
          have hd' := Lib.hid hd
          clear hd
          gi_wp2
          exact ⟨KeepsFrom.refl _ _, KpS.refl _ _, sp', kn', H1.out, h2, HI.out.1, HI.out.2.1, (fun x hx' j hj => by
            rcases List.mem_append.1 hx' with h | h
            · exact HI.out.2.2 x h j hj
            · rw [List.mem_singleton.1 h] at hj; injection hj with hj; subst hj; exact hd'.out)⟩
    case done =>
      rintro D xs X hD rfl ⟨sp', kn', h1, h2, h5, h6, h7⟩ hK
      have hvs : ValS f cnt i (spanL cnt (fun k => sp'.getD k (0, 0)) (stepsL f i)) := .mk _ (fun k ⟨m, hm⟩ => h5 k (h7 ⟨(m, some k), hm⟩ (List.mem_attach _ _) k rfl))
      have hXn : L.n ≤ X.heap.size := by have := h2.bel.size; omega
      have hbd : Below X.heap.size X X.drew := ⟨rfl, rfl, rfl, Nat.le_refl _, fun _ _ => rfl⟩
      have HV := Lib.hid (hval z L.b i L.Bg L.Bc L.go L.N sp' X.drew (hf.below (by rw [HW0.out]; exact (hB.trans h2.bel).trans (hbd.mono hXn))) hok (by rw [← HN.out]; exact hi) HN.out (h1.below hbd).bg (h1.below hbd).bc (h1.below hbd).ro h1.lo)
      generalize spanL cnt (fun k => sp'.getD k (0, 0)) (stepsL f i) = sv at *
      have x0 := h1.bk.cell 0
      have x1 := h1.bv.cell 0
      have x2 := h1.bo.cell 0
      simp at x0 x1 x2
      have e0 : X.drew.cell? ⟨L.Bk, 0, none⟩ = some (.slice (some ⟨L.gk, 0, none⟩) L.N L.N) := x0
      have e1 : X.drew.cell? ⟨L.Bv, 0, none⟩ = some (.func (.func 72) #[] #[.pointer (some ⟨L.Bg, 0, none⟩), .pointer (some ⟨L.Bc, 0, none⟩)]) := x1
      have e2 : X.drew.cell? ⟨L.Bo, 0, none⟩ = some (.slice (some ⟨L.go, 0, none⟩) L.N L.N) := x2
      have hiI : (i : Int) < L.N := by omega
      have n1 : L.Bk ≠ L.go := h1.bk.ne h1.ro (by decide)
      have n2 : L.Bv ≠ L.go := h1.bv.ne h1.ro (by decide)
      have n3 : L.Bo ≠ L.go := h1.bo.ne h1.ro (by decide)
      have n4 : L.Bk ≠ L.gk := h1.bk.ne h1.rk (by decide)
      have n5 : L.Bv ≠ L.gk := h1.bv.ne h1.rk (by decide)
      have n6 : L.Bo ≠ L.gk := h1.bo.ne h1.rk (by decide)
      have n7 : L.gk ≠ L.go := h1.rk.ne h1.ro (by decide)
      have HX := Lib.hid (And.intro h1 (And.intro h2 (And.intro h5 (And.intro h6 hK))))
      have HY : Hid (∀ Y, Below X.drew.heap.size X.drew Y → Y.cell? ⟨L.go, i * 2, none⟩ = some (.int .i64 (sp'.getD i (0, 0)).1) ∧ Y.cell? ⟨L.go, i * 2 + 1, none⟩ = some (.int .i64 (sp'.getD i (0, 0)).2) ∧ Y.frozen? ⟨L.go, i * 2, none⟩ = false ∧ Y.frozen? ⟨L.go, i * 2 + 1, none⟩ = false ∧ L.go < Y.heap.size ∧ Y.cell? ⟨L.gk, i, none⟩ = some (.bool (kn'.getD i false)) ∧ Y.frozen? ⟨L.gk, i, none⟩ = false ∧ L.gk < Y.heap.size) := fun Y hY => by
        have S9 := (h1.below hbd).below hY
        obtain ⟨a, b⟩ := sp_cell S9.ro (k := i) (by rw [S9.lo]; exact hi)
        exact ⟨a, b, S9.ro.fz _, S9.ro.fz _, S9.ro.lt, S9.ck hi, S9.rk.fz _, S9.rk.lt⟩
      clear h1 h2 h5 h6 h7 hK h65 h3 S3 K3 ih hbd
      gi_wp2
      go_wp2_with fail
      go_region_held3 (fun w' => w'.cell? ⟨L.Bk, 0, none⟩ = some (.slice (some ⟨L.gk, 0, none⟩) L.N L.N) ∧ w'.cell? ⟨L.Bv, 0, none⟩ = some (.func (.func 72) #[] #[.pointer (some ⟨L.Bg, 0, none⟩), .pointer (some ⟨L.Bc, 0, none⟩)]) ∧ w'.cell? ⟨L.Bo, 0, none⟩ = some (.slice (some ⟨L.go, 0, none⟩) L.N L.N))
        (first | with_reducible exact ⟨e0, e1, e2⟩ | with_reducible exact ⟨f0, f1, f2⟩ | with_reducible exact ⟨far2 f0 n1, far2 f1 n2, far2 f2 n3⟩ | with_reducible exact ⟨far3 f0 n1 n4, far3 f1 n2 n5, far3 f2 n3 n6⟩)
        (first | (go_at_call 72; refine (HV.out).mono ?_; rintro e Y ⟨rfl, hbY⟩; have f0 := keepc hbY e0; have f1 := keepc hbY e1; have f2 := keepc hbY e2; obtain ⟨r0, r1, r2, r3, r4, r5, r6, r7⟩ := HY.out Y hbY))
      obtain ⟨h1, h2, h5, h6, hK⟩ := HX.out
      have hbY' : Below X.heap.size X Y := (show Below X.heap.size X X.drew from ⟨rfl, rfl, rfl, Nat.le_refl _, fun _ _ => rfl⟩).trans hbY
      have S9 := h1.below hbY'
      have P9 := S9.put i hi sv
      have K9 : FilKeep L X (((Y.setCell ⟨L.go, i * 2, none⟩ (.int .i64 sv.1)).setCell ⟨L.go, i * 2 + 1, none⟩ (.int .i64 sv.2)).setCell ⟨L.gk, i, none⟩ (.bool true)) :=
        (FilKeep.of_below hbY' hXn).trans ((FilKeep.set hL (p := ⟨L.go, i * 2, none⟩) _ (.inr rfl)).trans ((FilKeep.set hL (p := ⟨L.go, i * 2 + 1, none⟩) _ (.inr rfl)).trans (FilKeep.set hL (p := ⟨L.gk, i, none⟩) _ (.inl rfl))))
      have hK' := (K9.others h1).same _ _ hK rfl
      have K10 := h2.trans K9
      have hA9 : ∀ k, (kn'.set i true).getD k false = true → ValS f cnt k ((sp'.set i sv).getD k (0, 0)) := fun k hk => by
        by_cases e : i = k
        · subst e
          have : (sp'.set i sv).getD i (0, 0) = sv := by
            have := h1.lo
            simp [List.getD_eq_getElem?_getD, show i < sp'.length by omega]
          rw [this]
          exact hvs
        · rw [getD_set_ne _ _ e] at hk
          have : (sp'.set i sv).getD k (0, 0) = sp'.getD k (0, 0) := by simp only [List.getD_eq_getElem?_getD, List.getElem?_set, if_neg e]
          rw [this]
          exact h5 k hk
      have hM9 : ∀ k, kn.getD k false = true → (kn'.set i true).getD k false = true := fun k hk => by
        by_cases e : i = k
        · subst e; exact getD_set_eq _ _ (by have := h1.lk; omega)
        · rw [getD_set_ne _ _ e]; exact h6 k hk
      have hT9 : (kn'.set i true).getD i false = true := getD_set_eq _ _ (by have := h1.lk; omega)
      generalize ((Y.setCell ⟨L.go, i * 2, none⟩ (.int .i64 sv.1)).setCell ⟨L.go, i * 2 + 1, none⟩ (.int .i64 sv.2)).setCell ⟨L.gk, i, none⟩ (.bool true) = F at *
      refine ⟨by simp, .inl ⟨_, _, rfl, run_takeDeferred hK', ?_⟩⟩
      exact ⟨.tuple #[], by simp [results, Try.results84, go_sem], _, _, ⟨_, rfl⟩, P9.grown (grownBy_putObj' _ _ _) (fun r e => by injection e with e; subst e; exact ⟨_, hK', rfl⟩), K10.grown (grownBy_putObj' _ _ _) hnW (fun r e => by injection e with e; omega), hA9, hM9, hT9⟩
    case stop =>
      rintro D c pre X hD hp h hK
      exact h.elim

end Go.Proofs.Ytkikjmkpndmdcaa
