/-
  What is proved: plain facts: what notes count for, and the register, do not hang on where strokes lie; what is sorted stands in the order of taking effect.
-/
import Derived.Test.YteihcodicfoiaaaGreatSortWMw
import Derived.Test.YteihcodicfoiaaaGreatMw30
namespace Go.Proofs.YteihcodicfoiaaaGreat
open Go.RowKit

theorem cand_plain (r x : NoteD) : cand r.plain x.plain = cand r x := rfl
theorem knownC_plain (a b : NoteD) : knownC a.plain b.plain = knownC a b := rfl
theorem best_plain : ∀ l : List NoteD, best (l.map NoteD.plain) = (best l).map NoteD.plain
  | [] => rfl
  | x :: l => by
    simp only [List.map_cons, best, best_plain l]
    cases best l with
    | none => rfl
    | some y =>
      simp only [Option.map_some]
      by_cases h : knownC y x < 0
      · have h' : knownC y.plain x.plain < 0 := h
        rw [if_pos h, if_pos h']
        rfl
      · have h' : ¬ knownC y.plain x.plain < 0 := h
        rw [if_neg h, if_neg h']
        rfl
theorem countsN_plain (r j : NoteD) : countsN r.plain j.plain = (countsN r j).plain := by
  unfold countsN
  by_cases h : j.fix = 2
  · have h' : j.plain.fix = 2 := h
    rw [if_pos h, if_pos h']
    rfl
  · have h' : ¬ j.plain.fix = 2 := h
    rw [if_neg h, if_neg h']
    rfl
theorem plain_plain (n : NoteD) : n.plain.plain = n.plain := rfl
theorem eff_plain (N : List NoteD) (n : NoteD) : eff (N.map NoteD.plain) n.plain = (eff N n).map NoteD.plain := by
  unfold eff
  have e : (N.map NoteD.plain).filter (cand n.plain) = (N.filter (cand n)).map NoteD.plain := by
    rw [List.filter_map]
    rfl
  rw [e, best_plain]
  show (if isDone n then _ else _) = _
  split
  · cases best (N.filter (cand n)) with
    | none => rfl
    | some j =>
      simp only [Option.map_some, effOf]
      show (if j.kind = 6 then _ else _) = _
      split
      · rfl
      · rw [countsN_plain]
        rfl
  · rfl
theorem evs_plain (N : List NoteD) : ∀ M : List NoteD, (M.map NoteD.plain).filterMap (eff (N.map NoteD.plain)) = (M.filterMap (eff N)).map NoteD.plain
  | [] => rfl
  | x :: M => by
    rw [List.map_cons, List.filterMap_cons, List.filterMap_cons, eff_plain, evs_plain N M]
    cases eff N x <;> rfl
theorem evsOf_plain (N : List NoteD) : evsOf (N.map NoteD.plain) = (evsOf N).map NoteD.plain := evs_plain N N
theorem whenLt_plain (a b : NoteD) : whenLt a.plain b.plain ↔ whenLt a b := Iff.rfl
theorem names_plain (l : List NoteD) : (l.map NoteD.plain).map NoteD.name = l.map NoteD.name := by rw [List.map_map]; rfl

theorem regStep_plain (s : List NoteD × List NoteD) (x : NoteD) : regStep (s.1.map NoteD.plain, s.2.map NoteD.plain) x.plain = ((regStep s x).1.map NoteD.plain, (regStep s x).2.map NoteD.plain) := by
  unfold regStep
  by_cases h1 : x.kind = 1
  · have h1' : x.plain.kind = 1 := h1
    rw [if_pos h1', if_pos h1]
    by_cases h8 : s.1.length = 8
    · rw [if_pos h8, if_pos (by simpa using h8)]
    · rw [if_neg h8, if_neg (by simpa using h8)]
      simp
  · have h1' : ¬ x.plain.kind = 1 := h1
    rw [if_neg h1', if_neg h1]
    by_cases h2 : x.kind = 2
    · have h2' : x.plain.kind = 2 := h2
      rw [if_pos h2', if_pos h2]
      by_cases hm : x.ref ∈ s.1.map NoteD.name
      · have hm' : x.plain.ref ∈ (s.1.map NoteD.plain).map NoteD.name := by rw [names_plain]; exact hm
        rw [if_pos hm, if_pos hm']
        simp
      · have hm' : ¬ x.plain.ref ∈ (s.1.map NoteD.plain).map NoteD.name := by rw [names_plain]; exact hm
        rw [if_neg hm, if_neg hm']
    · have h2' : ¬ x.plain.kind = 2 := h2
      rw [if_neg h2', if_neg h2]
      simp
theorem regFold_plain : ∀ (L : List NoteD) (s : List NoteD × List NoteD), (L.map NoteD.plain).foldl regStep (s.1.map NoteD.plain, s.2.map NoteD.plain) = ((L.foldl regStep s).1.map NoteD.plain, (L.foldl regStep s).2.map NoteD.plain)
  | [], _ => rfl
  | x :: L, s => by rw [List.map_cons, List.foldl_cons, regStep_plain, regFold_plain L, List.foldl_cons]
theorem regOf_plain (L : List NoteD) : regOf (L.map NoteD.plain) = ((regOf L).1.map NoteD.plain, (regOf L).2.map NoteD.plain) := regFold_plain L ([], [])

theorem pairwise_when {L : List NoteD} (h : L.Pairwise fun x y => ltOf whenC y x = false) (hn : (L.map NoteD.name).Nodup) : L.Pairwise whenLt := by
  rw [List.nodup_iff_pairwise_ne, List.pairwise_map] at hn
  refine (h.and hn).imp fun {a b} hab => ?_
  obtain ⟨h1, h2⟩ := hab
  rw [ltWhen_f] at h1
  rcases whenLt_tri a b with g | g | g
  · exact g
  · exact absurd g h2
  · exact absurd g h1

/-- What the events' loop has made of the notes D that were handed out. -/
def EvMade (l D L : List NoteD) : Prop := L.map NoteD.plain = (D.filterMap (eff l)).map NoteD.plain
theorem EvMade.nil (l : List NoteD) : EvMade l [] [] := rfl
theorem EvMade.skip {l D L : List NoteD} (h : EvMade l D L) {n : NoteD} (hn : eff l n = none) : EvMade l (D ++ [n]) L := by
  unfold EvMade at *
  rw [List.filterMap_append, h]
  simp [hn]
theorem EvMade.push {l D L : List NoteD} (h : EvMade l D L) {n m x : NoteD} (hn : eff l n = some m) (hx : x.plain = m.plain) : EvMade l (D ++ [n]) (L ++ [x]) := by
  unfold EvMade at *
  rw [List.filterMap_append, List.map_append, h]
  simp [hn, hx]
theorem EvMade.len {l D L : List NoteD} (h : EvMade l D L) : L.length ≤ D.length := by
  have := congrArg List.length h
  rw [List.length_map, List.length_map] at this
  rw [this]
  exact List.length_filterMap_le _ _
/-- Behind the loop and the sort. -/
theorem EvMade.sorted {l D L L' : List NoteD} (h : EvMade l D L) (hp : D.Perm l) (hn : (l.map NoteD.name).Nodup) (hL : L'.Perm L) (hs : L'.Pairwise fun x y => ltOf whenC y x = false) :
    (L'.map NoteD.plain).Perm (evsOf (l.map NoteD.plain)) ∧ L'.Pairwise whenLt := by
  have h1 : (L'.map NoteD.plain).Perm (evsOf (l.map NoteD.plain)) := by
    rw [evsOf_plain]
    refine (hL.map _).trans ?_
    rw [show L.map NoteD.plain = _ from h]
    exact (hp.filterMap _).map _
  refine ⟨h1, pairwise_when hs ?_⟩
  have h2 := h1.map NoteD.name
  rw [names_plain] at h2
  refine h2.nodup_iff.2 ?_
  have h3 := evs_names (N := l.map NoteD.plain) (l.map NoteD.plain)
  rw [names_plain] at h3
  exact h3.nodup hn
end Go.Proofs.YteihcodicfoiaaaGreat
