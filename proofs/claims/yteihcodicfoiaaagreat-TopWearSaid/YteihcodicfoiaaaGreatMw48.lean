/-
  What is proved: plain facts: what the register of a set holds is right, and can be told.
  What is proved: plain facts about a story: what the events of a register add to it; its counts; a clone of spans is owned.
-/
import Derived.Test.YteihcodicfoiaaaGreatRightMw
import Derived.Test.YteihcodicfoiaaaGreatSetFMw
import Derived.Test.YteihcodicfoiaaaGreatTellMw
import Derived.Test.YteihcodicfoiaaaGreatMw8
import Derived.Test.YteihcodicfoiaaaGreatCheckBMw
namespace Go.Proofs.YteihcodicfoiaaaGreat
open Go.RowKit

theorem same0 (a : NoteD) : sameB a note0 = true ↔ ((a.house = 0 ∧ a.num = 0 ∧ a.clock = 0 ∧ a.day = 0 ∧ a.kind = 0 ∧ a.stone = 0 ∧ a.heap = 0 ∧ a.turns = 0 ∧ a.a = 0 ∧ a.b = 0 ∧ a.ring = 0 ∧ a.rh = 0 ∧ a.rn = 0 ∧ a.fix = 0) ∧ (a.hlo = 0 ∧ a.hhi = 0) ∧ (a.dlo = 0 ∧ a.dhi = 0) ∧ a.strokes = []) := by
  simp [sameB, numsL, note0]
  intros
  exact decide_eq_true_iff
theorem saidN_plain (k : Int) (n : NoteD) : ∃ c d, saidN k n.plain = { saidN k n with sA := c, sc := d } := by
  unfold saidN
  split
  · exact ⟨none, 0, rfl⟩
  · split
    · exact ⟨none, 0, rfl⟩
    · split
      · exact ⟨none, 0, rfl⟩
      · split
        · exact ⟨none, 0, rfl⟩
        · split
          · exact ⟨none, 0, rfl⟩
          · exact ⟨none, 0, rfl⟩
theorem formedB_plain (f : FrD) (n : NoteD) : formedB f n.plain = formedB f n := by
  have h1 : ∀ k, saidB f k n.plain = saidB f k n := fun k => rfl
  have h2 : sameB (rest2 n.plain) note0 = sameB (rest2 n) note0 := by
    have key : ∀ a b : NoteD, (∃ c d, b = { a with sA := c, sc := d }) → sameB b note0 = sameB a note0 := by
      rintro a b ⟨c, d, rfl⟩; rfl
    refine key _ _ ?_
    unfold rest2 rest1
    have hk : n.plain.kind = n.kind := rfl
    have hx : n.plain.fix = n.fix := rfl
    rw [hk, hx]
    split
    · obtain ⟨c, d, e⟩ := saidN_plain 2 n
      exact ⟨c, d, by rw [e]⟩
    · split
      · have e5 : saidN 5 n.plain = (saidN 5 n).plain := by simp [saidN, NoteD.plain]
        obtain ⟨c, d, e⟩ := saidN_plain n.fix (saidN 5 n)
        exact ⟨c, d, by rw [e5, e]⟩
      · obtain ⟨c, d, e⟩ := saidN_plain n.kind n
        exact ⟨c, d, by rw [e]⟩
  have h3 : ok1 f n.plain = ok1 f n := by
    unfold ok1
    have hk : n.plain.kind = n.kind := rfl
    have hx : n.plain.fix = n.fix := rfl
    rw [hk, hx, h1, h1, h1]
    have e5 : saidN 5 n.plain = (saidN 5 n).plain := by simp [saidN, NoteD.plain]
    rw [e5]
    rfl
  show (ok1 f n.plain && ((inB n.house 1 8 && inB n.num 1 400) && (inB n.clock 1 1099511627776 && (inB n.day 0 99999 && sameB (rest2 n.plain) note0)))) = _
  rw [h2, h3]
  rfl
set_option maxHeartbeats 2000000 in
theorem counts_formed {f : FrD} {r j : NoteD} (hr : formedB f r = true) (hj : formedB f j = true) (h5 : j.kind = 5) (hc : j.fix ≠ 2 ∨ r.kind = 2) : formedB f (countsN r j) = true := by
  have hfx := (formed_ok hj).1.2.1 h5
  unfold formedB at hr hj ⊢
  simp only [Bool.and_eq_true] at hr hj ⊢
  obtain ⟨hr1, ⟨hr2, hr3⟩, hr4, hr5, hr6⟩ := hr
  obtain ⟨hj1, ⟨hj2, hj3⟩, hj4, hj5, hj6⟩ := hj
  rw [same0] at hj6
  by_cases f2 : j.fix = 2
  · have hrk : r.kind = 2 := hc.resolve_left (fun h => h f2)
    unfold ok1 at hj1 hr1
    rw [if_neg (by omega), if_pos h5, f2] at hj1
    rw [if_pos hrk] at hr1
    unfold rest2 rest1 at hj6
    rw [if_neg (by omega), if_pos h5, f2] at hj6
    unfold countsN
    rw [if_pos f2, f2]
    rw [same0]
    simp [ok1, rest2, rest1, saidN, saidB] at *
    simp_all
  · have f3 : j.fix = 1 ∨ j.fix = 3 ∨ j.fix = 4 := by omega
    unfold ok1 at hj1
    rw [if_neg (by omega), if_pos h5] at hj1
    unfold rest2 rest1 at hj6
    rw [if_neg (by omega), if_pos h5] at hj6
    unfold countsN
    rw [if_neg f2]
    rw [same0]
    rcases f3 with g | g | g <;> rw [g] at hj1 hj6 ⊢ <;> simp [ok1, rest2, rest1, saidN, saidB] at * <;> simp_all
theorem evs_formed {f : FrD} {l : List NoteD} (h : ∀ n ∈ l, formedB f n = true) : ∀ m ∈ evsOf l, formedB f m = true := by
  intro m hm
  obtain ⟨n, hn, he⟩ := List.mem_filterMap.1 hm
  unfold eff at he
  split at he
  · cases hb : best (l.filter (cand n)) with
    | none =>
      rw [hb] at he
      simp only [effOf] at he
      injection he with he
      subst he
      exact h n hn
    | some j =>
      rw [hb] at he
      simp only [effOf] at he
      split at he
      · cases he
      · rename_i h6
        injection he with he
        have hj := List.mem_filter.1 (best_mem hb)
        have := hj.2
        unfold cand judgesB at this
        simp only [Bool.and_eq_true, Bool.or_eq_true, beq_iff_eq, bne_iff_ne] at this
        subst he
        rcases this.2.2 with g | g
        · exact absurd g h6
        · exact counts_formed (h n hn) (h j hj.1) g.1 g.2
  · cases he

theorem evStep_keep (L : List EvD) : ∀ s : List EvD × List EvD,
    ((∀ e ∈ s.1, e.note.kind = 1) ∧ ∀ e ∈ s.2, e.note.kind ≠ 1 ∧ (e.note.kind = 2 → (e.note.rh, e.note.rn) ∈ s.1.map fun e => (e.eh, e.en))) →
    ((∀ e ∈ (L.foldl evStep s).1, e.note.kind = 1) ∧ ∀ e ∈ (L.foldl evStep s).2, e.note.kind ≠ 1 ∧ (e.note.kind = 2 → (e.note.rh, e.note.rn) ∈ (L.foldl evStep s).1.map fun e => (e.eh, e.en))) := by
  induction L with
  | nil => exact fun s h => h
  | cons x L ih =>
    intro s h
    rw [List.foldl_cons]
    apply ih
    unfold evStep
    split
    · rename_i h1
      split
      · exact h
      · refine ⟨fun e he => ?_, fun e he => ?_⟩
        · rcases List.mem_append.1 he with g | g
          · exact h.1 e g
          · rw [List.mem_singleton.1 g]; exact h1
        · have := h.2 e he
          exact ⟨this.1, fun k => by rw [List.map_append]; exact List.mem_append_left _ (this.2 k)⟩
    · rename_i h1
      split
      · rename_i h2
        split
        · rename_i h0
          refine ⟨h.1, fun e he => ?_⟩
          rcases List.mem_append.1 he with g | g
          · exact h.2 e g
          · rw [List.mem_singleton.1 g]
            exact ⟨h1, fun _ => (heapE_zero _ _ _).1 h0⟩
        · exact h
      · rename_i h2
        refine ⟨h.1, fun e he => ?_⟩
        rcases List.mem_append.1 he with g | g
        · exact h.2 e g
        · rw [List.mem_singleton.1 g]
          exact ⟨h1, fun k => absurd k h2⟩
theorem evReg_keep (L : List EvD) : (∀ e ∈ (evReg L).1, e.note.kind = 1) ∧ ∀ e ∈ (evReg L).2, e.note.kind ≠ 1 ∧ (e.note.kind = 2 → heapE (evReg L).1 e.note.rh e.note.rn = 0) := by
  have := evStep_keep L ([], []) ⟨(fun e h => by cases h), (fun e h => by cases h)⟩
  exact ⟨this.1, fun e he => ⟨(this.2 e he).1, fun k => (heapE_zero _ _ _).2 ((this.2 e he).2 k)⟩⟩
theorem evStep_sub (L : List EvD) : ∀ s : List EvD × List EvD, ∃ K, K.Sublist L ∧ ((L.foldl evStep s).1 ++ (L.foldl evStep s).2).Perm (s.1 ++ s.2 ++ K) := by
  induction L with
  | nil => exact fun s => ⟨[], List.Sublist.refl _, by simp⟩
  | cons x L ih =>
    intro s
    rw [List.foldl_cons]
    obtain ⟨K, hK, hp⟩ := ih (evStep s x)
    have : (evStep s x).1 ++ (evStep s x).2 = s.1 ++ s.2 ∨ ((evStep s x).1 ++ (evStep s x).2).Perm (s.1 ++ s.2 ++ [x]) := by
      unfold evStep
      split
      · split
        · exact .inl rfl
        · refine .inr ?_
          show (s.1 ++ [x] ++ s.2).Perm _
          rw [List.append_assoc, List.append_assoc]
          exact List.Perm.append_left _ List.perm_append_comm
      · split
        · split
          · exact .inr (by show (s.1 ++ (s.2 ++ [x])).Perm _; rw [List.append_assoc])
          · exact .inl rfl
        · exact .inr (by show (s.1 ++ (s.2 ++ [x])).Perm _; rw [List.append_assoc])
    rcases this with h | h
    · exact ⟨K, hK.cons _, by rw [h] at hp; exact hp⟩
    · refine ⟨x :: K, hK.cons_cons _, hp.trans ?_⟩
      have := h.append_right K
      simpa using this
theorem evReg_names (L : List EvD) (h : (L.map fun e => (e.eh, e.en)).Nodup) : (((evReg L).1 ++ (evReg L).2).map fun e => (e.eh, e.en)).Nodup := by
  obtain ⟨K, hK, hp⟩ := evStep_sub L ([], [])
  exact (hp.map _).nodup_iff.2 (List.Nodup.sublist (by simpa using hK.map _) h)

/-- What SetR says of notes told. -/
theorem SetR.events {b : BaseC} {l L : List NoteD} {H E : List EvD} (h : SetR b l L H E) : ∀ m ∈ L, formedB b.fr m = true := by
  intro m hm
  have h1 : ∀ n ∈ l.map NoteD.plain, formedB b.fr n = true := fun n hn => by
    obtain ⟨x, hx, rfl⟩ := List.mem_map.1 hn
    rw [formedB_plain]
    exact setB_formed h.set x hx
  have h2 := evs_formed h1 m.plain (h.perm.mem_iff.1 (List.mem_map.2 ⟨m, hm, rfl⟩))
  rwa [formedB_plain] at h2
theorem SetR.nodup {b : BaseC} {l L : List NoteD} {H E : List EvD} (h : SetR b l L H E) : (L.map NoteD.name).Nodup := by
  have h2 := h.perm.map NoteD.name
  rw [names_plain] at h2
  refine h2.nodup_iff.2 ?_
  have h3 := evs_names (N := l.map NoteD.plain) (l.map NoteD.plain)
  rw [names_plain] at h3
  exact h3.nodup (setB_nodup h.set)
theorem SetR.mem {b : BaseC} {l L : List NoteD} {H E : List EvD} (h : SetR b l L H E) : ∀ e ∈ H ++ E, ∃ m ∈ L, e = evOf m := by
  intro e he
  rw [h.hh, h.ee] at he
  rcases List.mem_append.1 he with g | g
  · exact (evReg_mem L).1 e g
  · exact (evReg_mem L).2 e g
theorem SetR.right {b : BaseC} {l L : List NoteD} {H E : List EvD} (h : SetR b l L H E) : RightOk b.fr H E := by
  have hk := evReg_keep (L.map evOf)
  rw [← h.hh, ← h.ee] at hk
  refine ⟨h.h8, by have := h.e10; omega, fun e he => ?_, ?_, hk.1, hk.2⟩
  · obtain ⟨m, hm, rfl⟩ := h.mem e he
    have := h.kind m hm
    exact ⟨(isDone_iff m).2 ⟨this.1, this.2.1⟩, h.events m hm, rfl⟩
  · rw [h.hh, h.ee]
    apply evReg_names
    rw [List.map_map]
    exact h.nodup
theorem SetR.st200 {b : BaseC} {l L : List NoteD} {H E : List EvD} (h : SetR b l L H E) : ∀ e ∈ H ++ E, e.note.strokes.length ≤ 200 := by
  intro e he
  obtain ⟨m, hm, rfl⟩ := h.mem e he
  exact (h.kind m hm).2.2
theorem strokesB_each {f : FrD} {l : List Int} (h : strokesB f l = true) : (1 ≤ l.length ∧ l.length ≤ 200) ∧ ∀ s ∈ l, 0 ≤ s ∧ s + f.wide ≤ f.sec := by
  have hl := h
  unfold strokesB at h
  simp only [Bool.and_eq_true] at h
  obtain ⟨h1, h2⟩ := h
  refine ⟨by unfold inB at h2; simp at h2; omega, fun s hs => ?_⟩
  obtain ⟨k, hk, rfl⟩ := List.getElem_of_mem hs
  rw [List.all_eq_true] at h1
  have := h1 k (List.mem_range.2 hk)
  unfold sBad at this
  simp [getD_get _ _ hk, hk, inB] at this
  omega
theorem formed_tell {b : BaseC} {n : NoteD} (h : formedB b.fr n = true) (hd : 1 ≤ n.kind ∧ n.kind ≤ 4) (h1 : n.kind ≠ 1) : TellOk b n := by
  unfold formedB at h
  simp only [Bool.and_eq_true] at h
  have ho := h.1
  unfold ok1 at ho
  refine ⟨by omega, fun k => ?_, fun k => ?_, fun k => ?_⟩
  · rw [if_pos k] at ho
    simp only [Bool.and_eq_true] at ho
    have := ho.1
    simp [saidB, inB] at this
    omega
  · rw [if_neg (by omega), if_neg (by omega), k] at ho
    simp only [saidB, show ¬ ((4 : Int) = 1) by omega, show ¬ ((4 : Int) = 2) by omega, show ¬ ((4 : Int) = 3) by omega, if_false, if_true, Bool.and_eq_true] at ho
    have ho2 := ho.2.1
    unfold inB at ho2
    rw [decide_eq_true_eq] at ho2
    have e : b.fr.rings = b.bed.rings := rfl
    exact ⟨ho2.1, by omega⟩
  · rw [if_neg (by omega), if_neg (by omega), k] at ho
    simp only [saidB, show ¬ ((4 : Int) = 1) by omega, show ¬ ((4 : Int) = 2) by omega, show ¬ ((4 : Int) = 3) by omega, if_false, if_true, Bool.and_eq_true] at ho
    exact strokesB_each ho.2.2
theorem SetR.tell {b : BaseC} {l L : List NoteD} {H E : List EvD} (h : SetR b l L H E) : ∀ e ∈ E, TellOk b e.note := by
  intro e he
  have hk := evReg_keep (L.map evOf)
  rw [← h.hh, ← h.ee] at hk
  obtain ⟨m, hm, rfl⟩ := h.mem e (List.mem_append_right _ he)
  exact formed_tell (h.events m hm) (by have := h.kind m hm; exact ⟨this.1, this.2.1⟩) (hk.2 _ he).1
end Go.Proofs.YteihcodicfoiaaaGreat
namespace Go.Proofs.YteihcodicfoiaaaGreat
open Go.RowKit

/-- The counts of a stone: 0 the bedder, 1 the runner. -/
def cntOf (f : Flr) (ixF : Flr → Nat → Nat → Nat → Nat) : List Int := cntL f ixF (f.R * f.S * f.S)
theorem cntOf_len (f : Flr) (ixF : Flr → Nat → Nat → Nat → Nat) : (cntOf f ixF).length = f.R * f.S := cntL_len _ _ _
theorem RS_of {b : BaseC} (h : b.fr.Ok) (hf : b.Few) : ((b.flr.R * b.flr.S : Nat) : Int) = b.bed.rings * b.bed.sec ∧ b.flr.R ≤ 4 ∧ b.flr.S ≤ 6 := by
  have h1 := h.r0
  have h2 := h.s0
  simp only [BaseC.fr] at h1 h2
  have e1 : ((b.bed.rings.toNat : Nat) : Int) = b.bed.rings := by omega
  have e2 : ((b.bed.sec.toNat : Nat) : Int) = b.bed.sec := by omega
  refine ⟨?_, ?_, ?_⟩
  · show ((b.bed.rings.toNat * b.bed.sec.toNat : Nat) : Int) = _
    rw [Int.natCast_mul, e1, e2]
  · have := hf.rings; show b.bed.rings.toNat ≤ 4; omega
  · have := hf.sec; show b.bed.sec.toNat ≤ 6; omega
theorem cntOf_upto {b : BaseC} (h : b.fr.Ok) (hf : b.Few) (ixF : Flr → Nat → Nat → Nat → Nat) : Upto 1000 (cntOf b.flr ixF) := by
  obtain ⟨_, h1, h2⟩ := RS_of h hf
  have h3 : b.flr.R * b.flr.S ≤ 4 * 6 := Nat.mul_le_mul h1 h2
  have h4 : b.flr.R * b.flr.S * b.flr.S ≤ 4 * 6 * 6 := Nat.mul_le_mul h3 h2
  intro x hx
  obtain ⟨k, hk, rfl⟩ := List.getElem_of_mem hx
  have := cntL_bd b.flr ixF (b.flr.R * b.flr.S * b.flr.S) k
  have e : (cntOf b.flr ixF)[k] = (cntL b.flr ixF (b.flr.R * b.flr.S * b.flr.S)).getD k 0 := (getD_get _ _ hk).symm
  rw [e]
  exact ⟨this.1, by have := this.2; omega⟩

/-- The story of events. -/
def toldF (b : BaseC) (stone : Int) (cnt : List Int) (H E : List EvD) : List StepD × List ReadD := E.foldl (fun s e => tellF b stone cnt H s e.note) ([], [])
theorem toldF_snoc (b : BaseC) (stone : Int) (cnt : List Int) (H E : List EvD) (e : EvD) : toldF b stone cnt H (E ++ [e]) = tellF b stone cnt H (toldF b stone cnt H E) e.note := by simp [toldF, List.foldl_append]
theorem tellF_len (b : BaseC) (stone : Int) (cnt : List Int) (H : List EvD) (s : List StepD × List ReadD) (n : NoteD) : (tellF b stone cnt H s n).1.length ≤ s.1.length + 1 ∧ (tellF b stone cnt H s n).2.length ≤ s.2.length + 1 := by
  unfold tellF
  split
  · exact ⟨Nat.le_succ _, Nat.le_succ _⟩
  · split
    · simp
    · split <;> simp
theorem toldF_len (b : BaseC) (stone : Int) (cnt : List Int) (H : List EvD) (E : List EvD) : (toldF b stone cnt H E).1.length ≤ E.length ∧ (toldF b stone cnt H E).2.length ≤ E.length := by
  have : ∀ (E : List EvD) (s : List StepD × List ReadD), (E.foldl (fun s e => tellF b stone cnt H s e.note) s).1.length ≤ s.1.length + E.length ∧ (E.foldl (fun s e => tellF b stone cnt H s e.note) s).2.length ≤ s.2.length + E.length := by
    intro E
    induction E with
    | nil => exact fun s => ⟨Nat.le_refl _, Nat.le_refl _⟩
    | cons e E ih =>
      intro s
      rw [List.foldl_cons]
      have h1 := ih (tellF b stone cnt H s e.note)
      have h2 := tellF_len b stone cnt H s e.note
      simp only [List.length_cons]
      omega
  have := this E ([], [])
  simpa [toldF] using this
/-- The passes of a register. -/
def passesOf (cnt : List Int) (H E : List EvD) : List StepD := (E.filter fun e => e.note.kind == 2).map fun e => ⟨1, heapIx H e.note.rh e.note.rn, cnt.map (e.note.turns * ·), none, 0, 0, 0⟩
theorem told_passes (b : BaseC) (stone : Int) (cnt : List Int) (H : List EvD) : ∀ (E : List EvD) (s : List StepD × List ReadD), (E.foldl (fun s e => tellF b stone cnt H s e.note) s).1.filter (fun s => s.kind == 1) = s.1.filter (fun s => s.kind == 1) ++ passesOf cnt H E
  | [], s => by simp [passesOf]
  | e :: E, s => by
    rw [List.foldl_cons, told_passes b stone cnt H E]
    unfold tellF passesOf
    by_cases h1 : e.note.kind ≠ 2 ∧ e.note.stone ≠ stone
    · rw [if_pos h1]
      simp [List.filter_cons, h1.1]
    · rw [if_neg h1]
      by_cases h2 : e.note.kind = 2
      · rw [if_pos h2]
        simp [List.filter_cons, List.filter_append, h2]
      · rw [if_neg h2]
        split <;> simp [List.filter_cons, List.filter_append, h2]
theorem toldF_passes (b : BaseC) (stone : Int) (cnt : List Int) (H E : List EvD) : (toldF b stone cnt H E).1.filter (fun s => s.kind == 1) = passesOf cnt H E := by
  have := told_passes b stone cnt H E ([], [])
  simpa [toldF] using this

def tell0 (b : BaseC) (z : BaseL) (stone : Int) (A : Option Addr) (n c : Nat) : Array Value :=
  #[.int .i64 b.bed.rings, .int .i64 b.bed.sec, .int .i64 b.wide,
    .int .i64 b.bed.eye, .int .i64 b.bed.rings, .int .i64 b.bed.sec, .slice z.bed.1 b.bed.kinds.length z.bed.2,
    .int .i64 b.run.eye, .int .i64 b.run.rings, .int .i64 b.run.sec, .slice z.run.1 b.run.kinds.length z.run.2,
    .slice z.drive.1 b.drive.length z.drive.2,
    .int .i64 b.lift, .int .i64 b.top, .slice z.grades.1 b.grades.length z.grades.2, .int .i64 b.slo, .int .i64 b.shi,
    .slice z.s0.1 b.s0.length z.s0.2, .slice z.s1.1 b.s1.length z.s1.2, .slice z.a0.1 b.a0.length z.a0.2, .slice z.a1.1 b.a1.length z.a1.2,
    .int .i64 b.dlo, .int .i64 b.dhi, .int .i64 b.wide, .slice z.caps.1 b.caps.length z.caps.2, .slice z.reach.1 b.reach.length z.reach.2,
    .slice z.compass.1 b.compass.length z.compass.2, .slice z.pockets.1 b.pockets.length z.pockets.2, .int .i64 b.tol,
    .slice z.meshes.1 b.meshes.length z.meshes.2, .int .i64 b.houses,
    .int .i64 stone, .slice none 0 0, .slice A n c, .slice none 0 0, .slice none 0 0, .slice none 0 0]
theorem tell0_put (b : BaseC) (z : BaseL) (stone : Int) (A : Option Addr) (n c gc N : Nat) : (tell0 b z stone A n c).setIfInBounds 32 (.slice (some ⟨gc, 0, none⟩) N N) = tellArr b z stone gc N N ⟨A, c, none, 0, none, 0, none, 0⟩ n 0 0 0 := rfl
noncomputable def buildT (t : TypeId) (ps : Array (Nat × Value)) : Sem Value := Instr.build t ps
theorem buildT_run (t : TypeId) (ps : Array (Nat × Value)) (w : World) : Sem.run Tryz.prog (buildT t ps) w = buildSN t ps w := rfl
theorem builds_at118 (ps : Array (Nat × Value)) : Instr.build 118 ps = buildT 118 ps := rfl
theorem build118 (b : BaseC) (z : BaseL) (stone : Int) (A : Option Addr) (n c : Nat) (W : World) :
    buildSN 118 #[(0, .agg #[.int .i64 b.bed.rings, .int .i64 b.bed.sec, .int .i64 b.wide]), (1, .agg (b.arr z)), (2, .int .i64 stone), (4, .agg #[.slice A n c, .slice none 0 0, .slice none 0 0, .slice none 0 0])] W = .ok (.agg (tell0 b z stone A n c)) W := by
  unfold buildSN; kernel_rfl
theorem clone_spans_own (A : Option Addr) (c n : Nat) (xs : List Value) (w : World) (hn : n ≤ 65536) (hl : xs.length = n * 2) (h1 : oneCells xs) (hx : RowAt w A xs) :
    Calls Tryz.prog 37 #[.slice A n c] w fun e w' => (∃ A' c', e = .returned (.slice A' n c') ∧ w'.ownsRow w.heap.size 29 2 (.slice A' n c') n xs) ∧ Below w.heap.size w w' := by
  by_cases h0 : 0 < n
  · obtain ⟨b, off, rfl, hr⟩ := hx.some_ (by omega)
    refine (clone_spans_some b off c n xs w hn hl h1 hr).mono ?_
    rintro e w' ⟨v, rfl, hown, hb⟩
    obtain ⟨A', c', rfl, _, h3, h4⟩ := own_form hown
    exact ⟨⟨A', c', rfl, hown⟩, hb⟩
  · obtain rfl : n = 0 := by omega
    obtain rfl : xs = [] := List.eq_nil_of_length_eq_zero (by omega)
    cases A with
    | none =>
      refine (clone_spans_nil' c w).mono ?_
      rintro e w' ⟨rfl, rfl⟩
      exact ⟨⟨none, 0, rfl, World.ownsRow_nil _ _ _ _⟩, Below.refl _ _⟩
    | some a =>
      refine (clone_spans_zero a c w).mono ?_
      rintro e w' ⟨v, rfl, hown, hb⟩
      obtain ⟨A', c', rfl, _, h3, _⟩ := own_form hown
      exact ⟨⟨A', c', rfl, hown⟩, hb⟩
end Go.Proofs.YteihcodicfoiaaaGreat
