/-
  What is proved: plain facts about registers: what is counted of notes, in which order, and what becomes of it when a reading is withdrawn.
  What is proved: the contracts of compareNames, known and when.
  What is proved: the contract of contentOf.
-/
import Derived.Test.YteihcodicfoiaaaGreatMw7
import Derived.Test.YteihcodicfoiaaaGreatMw4
import Derived.Test.YteihcodicfoiaaaGreatMw2
import Derived.Test.YteihcodicfoiaaaGreatMw21
import Derived.Test.YteihcodicfoiaaaGreatMw23
namespace Go.Proofs.YteihcodicfoiaaaGreat

def cmpZ (a b : Int) : Int := if a < b then -1 else if b < a then 1 else 0
def orZ (a b : Int) : Int := if a = 0 then b else a
def NoteD.name (n : NoteD) : Int × Int := (n.house, n.num)
def NoteD.ref (n : NoteD) : Int × Int := (n.rh, n.rn)
def cmpName (a b : Int × Int) : Int := orZ (cmpZ a.1 b.1) (cmpZ a.2 b.2)
def knownC (a b : NoteD) : Int := orZ (cmpZ a.clock b.clock) (cmpName a.name b.name)
def whenC (a b : NoteD) : Int := orZ (cmpZ a.day b.day) (knownC a b)
def nameLt (a b : Int × Int) : Prop := a.1 < b.1 ∨ (a.1 = b.1 ∧ a.2 < b.2)
def knownLt (a b : NoteD) : Prop := a.clock < b.clock ∨ (a.clock = b.clock ∧ nameLt a.name b.name)
def whenLt (a b : NoteD) : Prop := a.day < b.day ∨ (a.day = b.day ∧ knownLt a b)

theorem cmpZ_lt (a b : Int) : cmpZ a b < 0 ↔ a < b := by unfold cmpZ; split <;> (try split) <;> omega
theorem cmpZ_eq (a b : Int) : cmpZ a b = 0 ↔ a = b := by unfold cmpZ; split <;> (try split) <;> omega
theorem cmpZ_bd (a b : Int) : -1 ≤ cmpZ a b ∧ cmpZ a b ≤ 1 := by unfold cmpZ; split <;> (try split) <;> omega
theorem orZ_lt (a b : Int) : orZ a b < 0 ↔ a < 0 ∨ (a = 0 ∧ b < 0) := by unfold orZ; split <;> omega
theorem orZ_eq (a b : Int) : orZ a b = 0 ↔ a = 0 ∧ b = 0 := by unfold orZ; split <;> omega
theorem cmpName_lt (a b : Int × Int) : cmpName a b < 0 ↔ nameLt a b := by unfold cmpName nameLt; rw [orZ_lt, cmpZ_lt, cmpZ_lt, cmpZ_eq]
theorem cmpName_eq (a b : Int × Int) : cmpName a b = 0 ↔ a = b := by
  unfold cmpName
  rw [orZ_eq, cmpZ_eq, cmpZ_eq]
  exact ⟨fun h => Prod.ext h.1 h.2, fun h => by rw [h]; exact ⟨rfl, rfl⟩⟩
theorem knownC_lt (a b : NoteD) : knownC a b < 0 ↔ knownLt a b := by unfold knownC knownLt; rw [orZ_lt, cmpZ_lt, cmpName_lt, cmpZ_eq]
theorem whenC_lt (a b : NoteD) : whenC a b < 0 ↔ whenLt a b := by unfold whenC whenLt; rw [orZ_lt, cmpZ_lt, knownC_lt, cmpZ_eq]
theorem nameLt_tri (a b : Int × Int) : nameLt a b ∨ a = b ∨ nameLt b a := by
  unfold nameLt
  by_cases h : a.1 = b.1 ∧ a.2 = b.2
  · exact .inr (.inl (Prod.ext h.1 h.2))
  · omega
theorem nameLt_asymm {a b : Int × Int} (h : nameLt a b) : ¬ nameLt b a := by unfold nameLt at *; omega
theorem nameLt_irrefl (a : Int × Int) : ¬ nameLt a a := by unfold nameLt; omega
theorem nameLt_trans {a b c : Int × Int} (h : nameLt a b) (h2 : nameLt b c) : nameLt a c := by unfold nameLt at *; omega
theorem knownLt_asymm {a b : NoteD} (h : knownLt a b) : ¬ knownLt b a := by unfold knownLt nameLt at *; omega
theorem knownLt_trans {a b c : NoteD} (h : knownLt a b) (h2 : knownLt b c) : knownLt a c := by unfold knownLt nameLt at *; omega
theorem knownLt_tri (a b : NoteD) : knownLt a b ∨ a.name = b.name ∨ knownLt b a := by
  rcases nameLt_tri a.name b.name with h | h | h
  · unfold knownLt; unfold nameLt at *; omega
  · exact .inr (.inl h)
  · unfold knownLt; unfold nameLt at *; omega
theorem whenLt_asymm {a b : NoteD} (h : whenLt a b) : ¬ whenLt b a := by unfold whenLt knownLt nameLt at *; omega
theorem whenLt_trans {a b c : NoteD} (h : whenLt a b) (h2 : whenLt b c) : whenLt a c := by unfold whenLt knownLt nameLt at *; omega
theorem whenLt_tri (a b : NoteD) : whenLt a b ∨ a.name = b.name ∨ whenLt b a := by
  rcases knownLt_tri a b with h | h | h
  · unfold whenLt; unfold knownLt nameLt at *; omega
  · exact .inr (.inl h)
  · unfold whenLt; unfold knownLt nameLt at *; omega

def isDone (n : NoteD) : Bool := inB n.kind 1 4
def judgesB (x r : NoteD) : Bool := x.kind == 6 || (x.kind == 5 && (x.fix != 2 || r.kind == 2))
/-- Who may judge a note. -/
def cand (r x : NoteD) : Bool := !isDone x && (x.ref == r.name && judgesB x r)
/-- The last known one. -/
def best : List NoteD → Option NoteD
  | [] => none
  | x :: l => match best l with
    | none => some x
    | some y => if knownC y x < 0 then some x else some y
def countsN (r j : NoteD) : NoteD := if j.fix = 2 then { j with house := r.house, num := r.num, clock := r.clock, kind := j.fix, fix := 0, rh := r.rh, rn := r.rn } else { j with house := r.house, num := r.num, clock := r.clock, kind := j.fix, fix := 0, rh := 0, rn := 0 }
theorem countsN_name (r j : NoteD) : (countsN r j).name = r.name := by unfold countsN; split <;> rfl
def effOf (n : NoteD) : Option NoteD → Option NoteD
  | none => some n
  | some j => if j.kind = 6 then none else some (countsN n j)
/-- What a note counts for. -/
def eff (N : List NoteD) (n : NoteD) : Option NoteD := if isDone n then effOf n (best (N.filter (cand n))) else none

theorem best_mem : ∀ {l : List NoteD} {j : NoteD}, best l = some j → j ∈ l
  | [], _, h => by cases h
  | x :: l, j, h => by
    simp only [best] at h
    split at h
    · injection h with h; simp [h]
    · rename_i y hy
      split at h
      · injection h with h; simp [h]
      · injection h with h; subst h; exact List.mem_cons_of_mem _ (best_mem hy)
theorem best_none : ∀ {l : List NoteD}, best l = none → l = []
  | [], _ => rfl
  | x :: l, h => by
    simp only [best] at h
    split at h
    · cases h
    · split at h <;> cases h
theorem best_le : ∀ {l : List NoteD} {j : NoteD}, best l = some j → ∀ x ∈ l, ¬ knownLt j x
  | [], _, h => by cases h
  | x :: l, j, h => by
    simp only [best] at h
    intro y hy
    split at h
    · rename_i hb
      injection h with h
      subst h
      rw [best_none hb] at hy
      simp at hy
      subst hy
      exact fun h => knownLt_asymm h h
    · rename_i z hz
      have ih := best_le hz
      split at h
      · rename_i hlt
        injection h with h
        subst h
        rw [knownC_lt] at hlt
        rcases List.mem_cons.1 hy with rfl | hy
        · exact fun h => knownLt_asymm h h
        · exact fun h => ih y hy (knownLt_trans hlt h)
      · rename_i hlt
        injection h with h
        subst h
        rw [knownC_lt] at hlt
        rcases List.mem_cons.1 hy with rfl | hy
        · exact hlt
        · exact ih y hy
theorem best_eq {l : List NoteD} {j : NoteD} (hj : j ∈ l) (hn : ∀ x ∈ l, ∀ y ∈ l, x.name = y.name → x = y) (hb : ∀ x ∈ l, ¬ knownLt j x) : best l = some j := by
  cases h : best l with
  | none => rw [best_none h] at hj; cases hj
  | some y =>
    have h1 := best_mem h
    have h2 := best_le h j hj
    have h3 := hb y h1
    rcases knownLt_tri j y with g | g | g
    · exact absurd g h3
    · rw [hn j hj y h1 g]
    · exact absurd g h2

theorem eff_name {N : List NoteD} {n m : NoteD} (h : eff N n = some m) : m.name = n.name := by
  unfold eff effOf at h
  split at h
  · split at h
    · injection h with h; rw [h]
    · split at h
      · cases h
      · injection h with h; rw [← h, countsN_name]
  · cases h
theorem eff_done {N : List NoteD} {n m : NoteD} (h : eff N n = some m) : isDone n = true := by
  unfold eff at h
  split at h
  · assumption
  · cases h
def evsOf (N : List NoteD) : List NoteD := N.filterMap (eff N)

/-- What a register has: heaps and events. -/
def regStep (s : List NoteD × List NoteD) (x : NoteD) : List NoteD × List NoteD :=
  if x.kind = 1 then (if s.1.length = 8 then s else (s.1 ++ [x], s.2))
  else if x.kind = 2 then (if x.ref ∈ s.1.map NoteD.name then (s.1, s.2 ++ [x]) else s)
  else (s.1, s.2 ++ [x])
def regOf (L : List NoteD) : List NoteD × List NoteD := L.foldl regStep ([], [])

/-- Two lists in order, with the same elements, are one list. -/
theorem sorted_unique : ∀ {l m : List NoteD}, l.Pairwise whenLt → m.Pairwise whenLt → (∀ x, x ∈ l ↔ x ∈ m) → l = m
  | [], [], _, _, _ => rfl
  | [], y :: m, _, _, h => by have := (h y).2 (by simp); cases this
  | x :: l, [], _, _, h => by have := (h x).1 (by simp); cases this
  | x :: l, y :: m, hl, hm, h => by
    rw [List.pairwise_cons] at hl hm
    have hxy : x = y := by
      have h1 := (h x).1 (by simp)
      have h2 := (h y).2 (by simp)
      rcases List.mem_cons.1 h1 with h1 | h1
      · exact h1
      · rcases List.mem_cons.1 h2 with h2 | h2
        · exact h2.symm
        · exact absurd (hl.1 y h2) (whenLt_asymm (hm.1 x h1))
    subst hxy
    congr 1
    refine sorted_unique hl.2 hm.2 fun z => ⟨fun hz => ?_, fun hz => ?_⟩
    · rcases List.mem_cons.1 ((h z).1 (List.mem_cons_of_mem _ hz)) with g | g
      · subst g
        exact absurd (hl.1 _ hz) (whenLt_asymm (hl.1 _ hz))
      · exact g
    · rcases List.mem_cons.1 ((h z).2 (List.mem_cons_of_mem _ hz)) with g | g
      · subst g
        exact absurd (hm.1 _ hz) (whenLt_asymm (hm.1 _ hz))
      · exact g

/-- A register from which a reading is struck. -/
theorem regOf_filter (p : NoteD → Bool) : ∀ (L : List NoteD) (s : List NoteD × List NoteD), (∀ x ∈ L, p x = false → x.kind = 3) → (∀ x ∈ s.1, p x = true) → (∀ x ∈ L, x.kind = 1 → p x = true) →
    (L.filter p).foldl regStep (s.1, s.2.filter p) = ((L.foldl regStep s).1, (L.foldl regStep s).2.filter p)
  | [], s, _, _, _ => rfl
  | x :: L, s, h, h1, h2 => by
    have ih := regOf_filter p L (regStep s x) (fun y hy => h y (by simp [hy])) (fun y hy => by
      unfold regStep at hy
      split at hy
      · rename_i hk
        split at hy
        · exact h1 y hy
        · simp at hy
          rcases hy with hy | rfl
          · exact h1 y hy
          · exact h2 _ (by simp) hk
      · split at hy
        · split at hy
          · exact h1 y hy
          · exact h1 y hy
        · exact h1 y hy) (fun y hy => h2 y (by simp [hy]))
    rw [List.foldl_cons, ← ih]
    cases hp : p x with
    | false =>
      have hk := h x (by simp) hp
      rw [List.filter_cons]
      simp only [hp, Bool.false_eq_true, if_false]
      congr 1
      unfold regStep
      simp [hk, hp]
    | true =>
      rw [List.filter_cons]
      simp only [hp, if_true, List.foldl_cons]
      congr 1
      unfold regStep
      simp only
      split
      · split <;> rfl
      · split
        · split
          · simp [hp]
          · rfl
        · simp [hp]

theorem filter_cand_ne {N : List NoteD} {out n : NoteD} (h : out.ref ≠ n.name) : (N ++ [out]).filter (cand n) = N.filter (cand n) := by
  rw [List.filter_append]
  have : cand n out = false := by unfold cand; simp [h]
  simp [this]

theorem reg_mem : ∀ (L : List NoteD) (s : List NoteD × List NoteD) (x : NoteD), (x ∈ (L.foldl regStep s).1 → x ∈ s.1 ∨ x ∈ L) ∧ (x ∈ (L.foldl regStep s).2 → x ∈ s.2 ∨ x ∈ L)
  | [], s, x => ⟨.inl, .inl⟩
  | y :: L, s, x => by
    obtain ⟨a, b⟩ := reg_mem L (regStep s y) x
    have c : (x ∈ (regStep s y).1 → x ∈ s.1 ∨ x = y) ∧ (x ∈ (regStep s y).2 → x ∈ s.2 ∨ x = y) := by
      unfold regStep
      split
      · split
        · exact ⟨.inl, .inl⟩
        · exact ⟨fun h => by simpa using h, .inl⟩
      · split
        · split
          · exact ⟨.inl, fun h => by simpa using h⟩
          · exact ⟨.inl, .inl⟩
        · exact ⟨.inl, fun h => by simpa using h⟩
    rw [List.foldl_cons]
    refine ⟨fun h => ?_, fun h => ?_⟩
    · rcases a h with h | h
      · rcases c.1 h with h | h
        · exact .inl h
        · exact .inr (by simp [h])
      · exact .inr (List.mem_cons_of_mem _ h)
    · rcases b h with h | h
      · rcases c.2 h with h | h
        · exact .inl h
        · exact .inr (by simp [h])
      · exact .inr (List.mem_cons_of_mem _ h)
theorem reg_sub : ∀ (L : List NoteD) (s : List NoteD × List NoteD), ((L.foldl regStep s).2).Sublist (s.2 ++ L)
  | [], s => by simp
  | y :: L, s => by
    rw [List.foldl_cons]
    refine (reg_sub L (regStep s y)).trans ?_
    have c : (regStep s y).2 = s.2 ∨ (regStep s y).2 = s.2 ++ [y] := by
      unfold regStep
      split
      · split <;> exact .inl rfl
      · split
        · split
          · exact .inr rfl
          · exact .inl rfl
        · exact .inr rfl
    rcases c with c | c <;> rw [c]
    · exact List.Sublist.append_left (List.sublist_cons_self _ _) _
    · simp

theorem filter_erase : ∀ (E : List NoteD) (k : Int × Int) (i : Nat) (x : NoteD), (E.map NoteD.name).Nodup → E[i]? = some x → x.name = k → E.filter (fun y => !(y.name == k)) = E.eraseIdx i
  | [], _, _, _, _, h, _ => by simp at h
  | y :: E, k, 0, x, hn, h, hx => by
    simp at h
    subst h
    simp only [List.map_cons, List.nodup_cons] at hn
    rw [List.filter_cons]
    simp only [hx, beq_self_eq_true, Bool.not_true, Bool.false_eq_true, if_false, List.eraseIdx_zero, List.tail_cons]
    refine List.filter_eq_self.2 fun z hz => ?_
    simp only [Bool.not_eq_true', beq_eq_false_iff_ne]
    intro e
    exact hn.1 (by rw [hx, ← e]; exact List.mem_map.2 ⟨z, hz, rfl⟩)
  | y :: E, k, i + 1, x, hn, h, hx => by
    simp only [List.map_cons, List.nodup_cons] at hn
    have h' : E[i]? = some x := by simpa using h
    have hne : (!(y.name == k)) = true := by
      simp only [Bool.not_eq_true', beq_eq_false_iff_ne]
      intro e
      exact hn.1 (by rw [e, ← hx]; exact List.mem_map.2 ⟨x, List.mem_of_getElem? h', rfl⟩)
    rw [List.filter_cons, if_pos hne, List.eraseIdx_cons_succ, filter_erase E k i x hn.2 h' hx]

theorem names_inj {N : List NoteD} (hn : (N.map NoteD.name).Nodup) {x y : NoteD} (hx : x ∈ N) (hy : y ∈ N) (h : x.name = y.name) : x = y := by
  obtain ⟨i, hi, rfl⟩ := List.getElem_of_mem hx
  obtain ⟨j, hj, rfl⟩ := List.getElem_of_mem hy
  have : i = j := (List.getElem_inj (h₀ := by simpa using hi) (h₁ := by simpa using hj) hn).1 (by simpa using h)
  subst this
  rfl

theorem evs_names {N : List NoteD} : ∀ (M : List NoteD), ((M.filterMap (eff N)).map NoteD.name).Sublist (M.map NoteD.name)
  | [] => by simp
  | x :: M => by
    rw [List.filterMap_cons]
    split
    · exact (evs_names M).trans (List.sublist_cons_self _ _)
    · rename_i m hm
      rw [List.map_cons, List.map_cons, eff_name hm]
      exact (evs_names M).cons_cons _

theorem evs_strike (f g : NoteD → Option NoteD) (k : Int × Int) : ∀ (M : List NoteD), (∀ n ∈ M, g n = if n.name = k then none else f n) → (∀ n m, f n = some m → m.name = n.name) → M.filterMap g = (M.filterMap f).filter (fun y => !(y.name == k))
  | [], _, _ => rfl
  | x :: M, h, hf => by
    have ih := evs_strike f g k M (fun n hn => h n (by simp [hn])) hf
    have hx := h x (by simp)
    rw [List.filterMap_cons, List.filterMap_cons, hx, ih]
    cases hfx : f x with
    | none => split <;> simp_all
    | some m =>
      have hm := hf x m hfx
      by_cases hk : x.name = k
      · rw [if_pos hk]
        simp [hm, hk]
      · rw [if_neg hk]
        simp [hm, hk]

/-- THE LAW: when a reading is withdrawn, the register is that without it. -/
theorem forget_law {N L L' : List NoteD} {out : NoteD} {which : Nat} {x : NoteD}
    (hn : (N.map NoteD.name).Nodup) (hL : L.Perm (evsOf N)) (hs : L.Pairwise whenLt)
    (ho : out.kind = 6) (hno : out.name ∉ N.map NoteD.name) (hon : ∀ y ∈ N, knownLt y out) (hox : out.ref = x.name)
    (hx : (regOf L).2[which]? = some x) (hk : x.kind = 3)
    (hL' : L'.Perm (evsOf (N ++ [out]))) (hs' : L'.Pairwise whenLt) :
    regOf L' = ((regOf L).1, (regOf L).2.eraseIdx which) := by
  have hxL : x ∈ L := by
    rcases (reg_mem L ([], []) x).2 (List.mem_of_getElem? hx) with h | h
    · cases h
    · exact h
  have hLn : (L.map NoteD.name).Nodup := (hL.map NoteD.name).nodup_iff.2 (List.Nodup.sublist (evs_names N) hn)
  have hod : isDone out = false := by unfold isDone inB; rw [ho]; rfl
  -- what the notes count for
  have hev : ∀ n ∈ N, eff (N ++ [out]) n = if n.name = x.name then none else eff N n := by
    intro n hnN
    split
    · rename_i he
      unfold eff
      split
      · have hc : cand n out = true := by unfold cand judgesB; simp [hod, ho, hox, he]
        have hb : best ((N ++ [out]).filter (cand n)) = some out := by
          refine best_eq (by simp [hc]) (fun a ha b hb hab => ?_) (fun y hy => ?_)
          · have ha1 := List.mem_append.1 (List.mem_filter.1 ha).1
            have hb1 := List.mem_append.1 (List.mem_filter.1 hb).1
            clear ha hb
            rcases ha1 with ha1 | ha1
            · rcases hb1 with hb1 | hb1
              · exact names_inj hn ha1 hb1 hab
              · have e := List.mem_singleton.1 hb1
                subst e
                exact absurd (List.mem_map.2 ⟨a, ha1, hab⟩) hno
            · have e := List.mem_singleton.1 ha1
              subst e
              rcases hb1 with hb1 | hb1
              · exact absurd (List.mem_map.2 ⟨b, hb1, hab.symm⟩) hno
              · exact (List.mem_singleton.1 hb1).symm
          · have hy := (List.mem_filter.1 hy).1
            simp at hy
            rcases hy with hy | rfl
            · exact knownLt_asymm (hon y hy)
            · exact fun h => knownLt_asymm h h
        rw [hb]
        simp [effOf, ho]
      · rfl
    · rename_i he
      unfold eff
      rw [filter_cand_ne (by rw [hox]; exact fun h => he h.symm)]
  have hout : eff (N ++ [out]) out = none := by unfold eff; simp [hod]
  have hevs : evsOf (N ++ [out]) = (evsOf N).filter (fun y => !(y.name == x.name)) := by
    unfold evsOf
    rw [List.filterMap_append]
    have h1 : [out].filterMap (eff (N ++ [out])) = [] := by simp [hout]
    rw [h1, List.append_nil]
    exact evs_strike _ _ _ N hev (fun n m h => eff_name h)
  have hp : L'.Perm (L.filter (fun y => !(y.name == x.name))) := by
    rw [hevs] at hL'
    exact hL'.trans (hL.symm.filter _)
  have hLL : L' = L.filter (fun y => !(y.name == x.name)) := sorted_unique hs' (hs.filter _) (fun z => hp.mem_iff)
  have hkk : ∀ y ∈ L, (!(y.name == x.name)) = false → y = x := fun y hy h => names_inj hLn hy hxL (by simpa using h)
  have h1 := regOf_filter (fun y => !(y.name == x.name)) L ([], []) (fun y hy h => by rw [hkk y hy h]; exact hk) (fun y hy => by cases hy) (fun y hy h => by
    cases hb : (!(y.name == x.name)) with
    | true => rfl
    | false => rw [hkk y hy hb, hk] at h; omega)
  have hEn : ((regOf L).2.map NoteD.name).Nodup := by
    have := (reg_sub L ([], [])).map NoteD.name
    exact List.Nodup.sublist (by simpa [regOf] using this) hLn
  have h2 := filter_erase (regOf L).2 x.name which x hEn hx rfl
  rw [hLL]
  unfold regOf at h2 ⊢
  rw [← h2]
  exact h1
end Go.Proofs.YteihcodicfoiaaaGreat
namespace Go.Proofs.YteihcodicfoiaaaGreat
open Go.RowKit

theorem orV_two (a b : Int) : orV [a, b] = orZ a b := by
  simp only [orV, orZ]
  split
  · split <;> omega
  · rfl
theorem cmpI_Z (a b : Int) : cmpI a b = cmpZ a b := rfl

set_option maxRecDepth 100000 in
set_option maxHeartbeats 4000000 in
theorem compareNames_any (a b : Int × Int) (w : World) : Calls Tryz.prog 90 #[nameV a.1 a.2, nameV b.1 b.2] w fun e w' => e = .returned (.int .i64 (cmpName a b)) ∧ Below w.heap.size w w' := by
  obtain ⟨a1, a2⟩ := a
  obtain ⟨b1, b2⟩ := b
  have HV : Hid (cmpName (a1, a2) (b1, b2) = orV [cmpI a1 b1, cmpI a2 b2]) := by rw [orV_two]; exact Lib.hid rfl
  simp only
  unfold nameV
  obtain ⟨W, hW⟩ : ∃ W, (w.alloc (.cells #[.int .i64 a1, .int .i64 a2] 66)).alloc (.cells #[.int .i64 b1, .int .i64 b2] 66) = W := ⟨_, rfl⟩
  have hbW : Below w.heap.size w W := by rw [← hW]; exact ((Below.refl _ _).alloc (Nat.le_refl _) _).alloc (by simp) _
  have Y : Bk W w.heap.size 66 #[.int .i64 a1, .int .i64 a2] := by rw [← hW]; exact (bk_last rfl).alloc _
  have Z : Bk W (w.heap.size + 1) 66 #[.int .i64 b1, .int .i64 b2] := by rw [← hW]; exact bk_last (by simp)
  have y0 := Y.cell 0
  have y1 := Y.cell 1
  have z0 := Z.cell 0
  have z1 := Z.cell 1
  simp at y0 y1 z0 z1
  have HW := Lib.hid hW
  clear hW Y Z
  go_enter Tryz.func90, Tryz.ntmps90
  go_upto_region 1 with fail
  rw [HW.out]
  clear HW
  refine wp_region_extmix 10 (by kernel_rfl) (by kernel_rfl) (fun _ _ d _ _ h => by cases d <;> exact h) ?_
  simp only [List.take_succ_cons, List.take_zero, List.drop_succ_cons, List.drop_zero]
  replace y0 := fun x : Ext W => keepc x.bel y0
  replace y1 := fun x : Ext W => keepc x.bel y1
  replace z0 := fun x : Ext W => keepc x.bel z0
  replace z1 := fun x : Ext W => keepc x.bel z1
  repeat (go_big_quiet_step ((go_at_call 129; exact ext_same (cmpI_any _ _ _))))
  refine wpQuiet_nil ?_
  rintro _ ⟨y, rfl⟩
  clear y0 y1 z0 z1
  have hb2 := y.bel
  generalize y.w = w2 at hb2 ⊢
  have hB := hbW.trans (hb2.mono hbW.size)
  generalize cmpI a1 b1 = q0 at *
  generalize cmpI a2 b2 = q1 at *
  have hR : RowAt (w2.alloc (.cells #[.int .i64 q0, .int .i64 q1] 3)) (some ⟨w2.heap.size, 0, none⟩) (intCells [q0, q1]) := fun _ => ⟨w2.heap.size, 0, rfl, by simp, fun j u hu => by
    have := two_at w2 (.int .i64 q0) (.int .i64 q1) 3 w2.heap.size rfl j u hu
    rwa [add_at] at this⟩
  have HO := Lib.hid (or_any _ 2 [q0, q1] _ hR (by simp))
  clear hR
  go_wp2_with (go_at_call 128; refine (HO.out).mono ?_; rintro e w' ⟨rfl, rfl⟩)
  go_ret
  exact ⟨by rw [HV.out]; rfl, hB.alloc hB.size _⟩

theorem load68_eq {w : World} {g : Nat} (n : NoteD) (h : Bk w g 68 n.arr) : loadN 68 (.pointer (some ⟨g, 0, none⟩)) w = .ok (.agg n.arr) w :=
  loadN_eq h rfl Tryz.underlying68 (by kernel_rfl)

attribute [local go_sem ↓] load_at68 load_run
set_option maxRecDepth 100000 in
set_option maxHeartbeats 4000000 in
theorem known_any (a b : NoteD) (w : World) : Calls Tryz.prog 86 #[.agg a.arr, .agg b.arr] w fun e w' => e = .returned (.int .i64 (knownC a b)) ∧ Below w.heap.size w w' := by
  have HV : Hid (knownC a b = orV [cmpI a.clock b.clock, cmpName a.name b.name]) := by rw [orV_two]; exact Lib.hid rfl
  obtain ⟨W, hW⟩ : ∃ W, (w.alloc (.cells a.arr 68)).alloc (.cells b.arr 68) = W := ⟨_, rfl⟩
  have hbW : Below w.heap.size w W := by rw [← hW]; exact ((Below.refl _ _).alloc (Nat.le_refl _) _).alloc (by simp) _
  have Y : Bk W w.heap.size 68 a.arr := by rw [← hW]; exact (bk_last rfl).alloc _
  have Z : Bk W (w.heap.size + 1) 68 b.arr := by rw [← hW]; exact bk_last (by simp)
  have y2 := Y.cell 2
  have z2 := Z.cell 2
  simp [NoteD.arr] at y2 z2
  have l0 := fun x : Ext W => load68_eq a (Y.keep x.bel)
  have l1 := fun x : Ext W => load68_eq b (Z.keep x.bel)
  have HN1 := Lib.hid (fun x : Ext W => nameOf_any a x.w)
  have HN2 := Lib.hid (fun x : Ext W => nameOf_any b x.w)
  have HCN := Lib.hid (fun x : Ext W => compareNames_any a.name b.name x.w)
  unfold nameV NoteD.name at HCN
  simp only at HCN
  have HW := Lib.hid hW
  clear hW Y Z
  go_enter Tryz.func86, Tryz.ntmps86
  go_upto_region 1 with fail
  rw [HW.out]
  clear HW
  refine wp_region_extmix 10 (by kernel_rfl) (by kernel_rfl) (fun _ _ d _ _ h => by cases d <;> exact h) ?_
  simp only [List.take_succ_cons, List.take_zero, List.drop_succ_cons, List.drop_zero]
  replace y2 := fun x : Ext W => keepc x.bel y2
  replace z2 := fun x : Ext W => keepc x.bel z2
  repeat (go_big_quiet_step (first | (go_at_call 129; exact ext_same (cmpI_any _ _ _)) | (go_at_call 73; (first | with_reducible exact ext_of (HN1.out _) | with_reducible exact ext_of (HN2.out _))) | (go_at_call 90; exact ext_of (HCN.out _))))
  refine wpQuiet_nil ?_
  rintro _ ⟨y, rfl⟩
  clear y2 z2 l0 l1 HN1 HN2 HCN
  have hb2 := y.bel
  generalize y.w = w2 at hb2 ⊢
  have hB := hbW.trans (hb2.mono hbW.size)
  unfold NoteD.name at HV
  generalize cmpI a.clock b.clock = q0 at *
  generalize cmpName (a.house, a.num) (b.house, b.num) = q1 at *
  have hR : RowAt (w2.alloc (.cells #[.int .i64 q0, .int .i64 q1] 3)) (some ⟨w2.heap.size, 0, none⟩) (intCells [q0, q1]) := fun _ => ⟨w2.heap.size, 0, rfl, by simp, fun j u hu => by
    have := two_at w2 (.int .i64 q0) (.int .i64 q1) 3 w2.heap.size rfl j u hu
    rwa [add_at] at this⟩
  have HO := Lib.hid (or_any _ 2 [q0, q1] _ hR (by simp))
  clear hR
  go_wp2_with (go_at_call 128; refine (HO.out).mono ?_; rintro e w' ⟨rfl, rfl⟩)
  go_ret
  exact ⟨by rw [HV.out]; rfl, hB.alloc hB.size _⟩

set_option maxRecDepth 100000 in
set_option maxHeartbeats 4000000 in
theorem when_any (a b : NoteD) (w : World) : Calls Tryz.prog 136 #[.agg a.arr, .agg b.arr] w fun e w' => e = .returned (.int .i64 (whenC a b)) ∧ Below w.heap.size w w' := by
  have HV : Hid (whenC a b = orV [cmpI a.day b.day, knownC a b]) := by rw [orV_two]; exact Lib.hid rfl
  obtain ⟨W, hW⟩ : ∃ W, (w.alloc (.cells a.arr 68)).alloc (.cells b.arr 68) = W := ⟨_, rfl⟩
  have hbW : Below w.heap.size w W := by rw [← hW]; exact ((Below.refl _ _).alloc (Nat.le_refl _) _).alloc (by simp) _
  have Y : Bk W w.heap.size 68 a.arr := by rw [← hW]; exact (bk_last rfl).alloc _
  have Z : Bk W (w.heap.size + 1) 68 b.arr := by rw [← hW]; exact bk_last (by simp)
  have y3 := Y.cell 3
  have z3 := Z.cell 3
  simp [NoteD.arr] at y3 z3
  have l0 := fun x : Ext W => load68_eq a (Y.keep x.bel)
  have l1 := fun x : Ext W => load68_eq b (Z.keep x.bel)
  have HKN := Lib.hid (fun x : Ext W => known_any a b x.w)
  have HW := Lib.hid hW
  clear hW Y Z
  go_enter Tryz.func136, Tryz.ntmps136
  go_upto_region 1 with fail
  rw [HW.out]
  clear HW
  refine wp_region_extmix 8 (by kernel_rfl) (by kernel_rfl) (fun _ _ d _ _ h => by cases d <;> exact h) ?_
  simp only [List.take_succ_cons, List.take_zero, List.drop_succ_cons, List.drop_zero]
  replace y3 := fun x : Ext W => keepc x.bel y3
  replace z3 := fun x : Ext W => keepc x.bel z3
  repeat (go_big_quiet_step (first | (go_at_call 129; exact ext_same (cmpI_any _ _ _)) | (go_at_call 86; exact ext_of (HKN.out _))))
  refine wpQuiet_nil ?_
  rintro _ ⟨y, rfl⟩
  clear y3 z3 l0 l1 HKN
  have hb2 := y.bel
  generalize y.w = w2 at hb2 ⊢
  have hB := hbW.trans (hb2.mono hbW.size)
  generalize cmpI a.day b.day = q0 at *
  generalize knownC a b = q1 at *
  have hR : RowAt (w2.alloc (.cells #[.int .i64 q0, .int .i64 q1] 3)) (some ⟨w2.heap.size, 0, none⟩) (intCells [q0, q1]) := fun _ => ⟨w2.heap.size, 0, rfl, by simp, fun j u hu => by
    have := two_at w2 (.int .i64 q0) (.int .i64 q1) 3 w2.heap.size rfl j u hu
    rwa [add_at] at this⟩
  have HO := Lib.hid (or_any _ 2 [q0, q1] _ hR (by simp))
  clear hR
  go_wp2_with (go_at_call 128; refine (HO.out).mono ?_; rintro e w' ⟨rfl, rfl⟩)
  go_ret
  exact ⟨by rw [HV.out]; rfl, hB.alloc hB.size _⟩
end Go.Proofs.YteihcodicfoiaaaGreat
namespace Go.Proofs.YteihcodicfoiaaaGreat
open Go.RowKit

def contV (kind : Int) (n : NoteD) : Value :=
  if kind = 1 then .iface 281 (.agg #[.int .i64 n.hlo, .int .i64 n.hhi])
  else if kind = 2 then .iface 283 (.agg #[.int .i64 n.turns])
  else if kind = 3 then .iface 285 (.agg #[.int .i64 n.stone, .int .i64 n.a, .int .i64 n.b])
  else if kind = 4 then .iface 287 (.agg #[.int .i64 n.stone, .int .i64 n.ring])
  else if kind = 5 ∨ kind = 6 then .iface 289 (.agg #[.int .i64 n.rh, .int .i64 n.rn])
  else .nilIface

set_option maxRecDepth 100000 in
set_option maxHeartbeats 4000000 in
theorem contentOf_any (kind : Int) (n : NoteD) (w : World) : Calls Tryz.prog 160 #[.int .i64 kind, .agg n.arr] w fun e w' => e = .returned (contV kind n) ∧ Below w.heap.size w w' := by
  obtain ⟨W, hW⟩ : ∃ W, w.alloc (.cells n.arr 68) = W := ⟨_, rfl⟩
  have hbW : Below w.heap.size w W := by rw [← hW]; exact (Below.refl _ _).alloc (Nat.le_refl _) _
  have X := (show Bk W w.heap.size 68 n.arr by rw [← hW]; exact bk_last rfl)
  have x5 := X.cell 5
  have x7 := X.cell 7
  have x8 := X.cell 8
  have x9 := X.cell 9
  have x12 := X.cell 12
  have x13 := X.cell 13
  have x14 := X.cell 14
  have x16 := X.cell 16
  have x17 := X.cell 17
  simp [NoteD.arr] at x5 x7 x8 x9 x12 x13 x14 x16 x17
  have HW := Lib.hid hW
  clear hW X
  by_cases k1 : kind = 1
  · subst k1
    have HV : Hid (contV 1 n = .iface 281 (.agg #[.int .i64 n.hlo, .int .i64 n.hhi])) := by unfold contV; exact Lib.hid rfl
    go_enter Tryz.func160, Tryz.ntmps160
    go_upto_region 1 with fail
    rw [HW.out]
    clear HW
    go_wp2_with fail
    go_ret
    exact ⟨by rw [HV.out]; rfl, hbW⟩
  have n1 : (kind == 1) = false := by simpa using k1
  by_cases k2 : kind = 2
  · subst k2
    have HV : Hid (contV 2 n = .iface 283 (.agg #[.int .i64 n.turns])) := by unfold contV; exact Lib.hid rfl
    go_enter Tryz.func160, Tryz.ntmps160
    go_upto_region 1 with fail
    rw [HW.out]
    clear HW
    go_wp2_with fail
    go_ret
    exact ⟨by rw [HV.out]; rfl, hbW⟩
  have n2 : (kind == 2) = false := by simpa using k2
  by_cases k3 : kind = 3
  · subst k3
    have HV : Hid (contV 3 n = .iface 285 (.agg #[.int .i64 n.stone, .int .i64 n.a, .int .i64 n.b])) := by unfold contV; exact Lib.hid rfl
    go_enter Tryz.func160, Tryz.ntmps160
    go_upto_region 1 with fail
    rw [HW.out]
    clear HW
    go_wp2_with fail
    go_ret
    exact ⟨by rw [HV.out]; rfl, hbW⟩
  have n3 : (kind == 3) = false := by simpa using k3
  by_cases k4 : kind = 4
  · subst k4
    have HV : Hid (contV 4 n = .iface 287 (.agg #[.int .i64 n.stone, .int .i64 n.ring])) := by unfold contV; exact Lib.hid rfl
    go_enter Tryz.func160, Tryz.ntmps160
    go_upto_region 1 with fail
    rw [HW.out]
    clear HW
    go_wp2_with fail
    go_ret
    exact ⟨by rw [HV.out]; rfl, hbW⟩
  have n4 : (kind == 4) = false := by simpa using k4
  by_cases k5 : kind = 5
  · subst k5
    have HV : Hid (contV 5 n = .iface 289 (.agg #[.int .i64 n.rh, .int .i64 n.rn])) := by unfold contV; exact Lib.hid rfl
    go_enter Tryz.func160, Tryz.ntmps160
    go_upto_region 1 with fail
    rw [HW.out]
    clear HW
    go_wp2_with fail
    go_ret
    exact ⟨by rw [HV.out]; rfl, hbW⟩
  have n5 : (kind == 5) = false := by simpa using k5
  by_cases k6 : kind = 6
  · subst k6
    have HV : Hid (contV 6 n = .iface 289 (.agg #[.int .i64 n.rh, .int .i64 n.rn])) := by unfold contV; exact Lib.hid rfl
    go_enter Tryz.func160, Tryz.ntmps160
    go_upto_region 1 with fail
    rw [HW.out]
    clear HW
    go_wp2_with fail
    go_ret
    exact ⟨by rw [HV.out]; rfl, hbW⟩
  have n6 : (kind == 6) = false := by simpa using k6
  have HV : Hid (contV kind n = .nilIface) := by unfold contV; refine Lib.hid ?_; rw [if_neg k1, if_neg k2, if_neg k3, if_neg k4, if_neg (by omega)]
  clear k1 k2 k3 k4 k5 k6
  go_enter Tryz.func160, Tryz.ntmps160
  go_upto_region 1 with fail
  rw [HW.out]
  clear HW
  go_wp2_with fail
  go_ret
  exact ⟨by rw [HV.out]; rfl, hbW⟩
end Go.Proofs.YteihcodicfoiaaaGreat
