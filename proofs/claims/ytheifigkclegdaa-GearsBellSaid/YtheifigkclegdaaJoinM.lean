/-
  Plain laws of trains one behind the other.
-/
import Derived.Test.YtheifigkclegdaaBack
import Derived.Test.YtheifigkclegdaaTimes
namespace Go.Proofs.Ytheifigkclegdaa

theorem drs_append (L M : List Mesh) : drs (L ++ M) = drs L ++ drs M := by simp [drs]
theorem dns_append (L M : List Mesh) : dns (L ++ M) = dns L ++ dns M := by simp [dns]
theorem pr_reverse (l : List Nat) : pr l.reverse = pr l := by
  induction l with
  | nil => rfl
  | cons x l ih => rw [List.reverse_cons, pr_append, ih]; simp [pr, Nat.mul_comm]
theorem drs_back (L : List Mesh) : drs (backL L) = (dns L).reverse := by
  simp [drs, backL, dns, swapM, List.map_reverse, Function.comp_def]
theorem dns_back (L : List Mesh) : dns (backL L) = (drs L).reverse := by
  simp [drs, backL, dns, swapM, List.map_reverse, Function.comp_def]

theorem ok_back {L : List Mesh} (h : okTrain L = true) : okTrain (backL L) = true := by
  simp only [okTrain, backL_len, Bool.and_eq_true, List.all_eq_true] at h ⊢
  refine ⟨h.1, fun m hm => ?_⟩
  obtain ⟨m', h', rfl⟩ := List.mem_map.1 hm
  have := h.2 m' (List.mem_reverse.1 h')
  simp only [Mesh.ok, swapM, Bool.and_eq_true] at this ⊢
  exact ⟨⟨this.1.2, this.1.1⟩, this.2⟩

theorem ok_join {L M : List Mesh} (h1 : okTrain L = true) (h2 : okTrain M = true) (hl : L.length + M.length ≤ 16) : okTrain (L ++ M) = true := by
  obtain ⟨a1, _, a3⟩ := ok_train h1
  obtain ⟨_, _, b3⟩ := ok_train h2
  simp only [okTrain, inB, Bool.and_eq_true, decide_eq_true_eq, List.all_eq_true, List.length_append]
  refine ⟨by omega, fun m hm => ?_⟩
  rcases List.mem_append.1 hm with h | h
  · exact a3 m h
  · exact b3 m h

theorem prd_pos {L : List Mesh} (h : okTrain L = true) : 1 ≤ pr (drs L) ∧ 1 ≤ pr (dns L) := by
  obtain ⟨_, _, k3⟩ := ok_train h
  exact ⟨pr_pos _ fun x hx => (drs_mem k3 x hx).1, pr_pos _ fun x hx => (dns_mem k3 x hx).1⟩

theorem ratio_err (L : List Mesh) : ((ratioR L).err = 0 ∧ okTrain L = true) ∨ ((ratioR L).err = 2 ∧ okTrain L = true) ∨ ((ratioR L).err = 70 ∧ okTrain L = false) := by
  by_cases h : okTrain L = true
  · have hR : ratioR L = low (pr (drs L)) (pr (dns L)) := by rw [ratioR, if_pos h]
    rcases low_err (pr (drs L)) (pr (dns L)) with h1 | h1
    · exact .inl ⟨by rw [hR, h1], h⟩
    · exact .inr (.inl ⟨by rw [hR, h1], h⟩)
  · exact .inr (.inr ⟨by rw [ratioR, if_neg h], by simpa using h⟩)

/-- The ratio of a train the other way round. -/
theorem ratio_back {L : List Mesh} (h : okTrain L = true) (he : (ratioR L).err = 0) : ratioR (backL L) = ⟨(ratioR L).den, (ratioR L).num, 0⟩ := by
  obtain ⟨p1, p2⟩ := prd_pos h
  have hR : ratioR L = low (pr (drs L)) (pr (dns L)) := by rw [ratioR, if_pos h]
  have hB : ratioR (backL L) = low (pr (dns L)) (pr (drs L)) := by rw [ratioR, if_pos (ok_back h), drs_back, dns_back, pr_reverse, pr_reverse]
  have hf := ratio_fit h he
  rw [hR] at he hf ⊢
  obtain ⟨e1, e2, e3, e4, e5⟩ := low_ok _ _ p2 he
  rw [hB, low_eq (pr (dns L)) (pr (drs L)) (low (pr (drs L)) (pr (dns L))).den (low (pr (drs L)) (pr (dns L))).num p1 hf.1 (by rw [Nat.mul_comm, ← e1, Nat.mul_comm]) (by rw [Nat.gcd_comm]; exact e2)]
  rw [if_pos ⟨e5, e4⟩]

theorem times_back {L : List Mesh} (h : okTrain L = true) (he : (ratioR L).err = 0) : timesR (ratioR L).num (ratioR L).den (ratioR (backL L)).num (ratioR (backL L)).den = ⟨1, 1, 0⟩ := by
  have hf := ratio_fit h he
  have hr := ratio_okr h he
  rw [ratio_back h he, times_of_ok hr (okr_swap hf.1 hr)]
  simp only [Int.toNat_natCast]
  rw [low_eq _ _ 1 1 (one_mul_one hf.2.2.1 hf.1) (by omega) (by rw [Nat.one_mul, Nat.mul_one, Nat.mul_comm]) (by simp)]
  rw [if_pos ⟨by omega, by omega⟩]

/-- The ratio of two trains, one behind the other. -/
theorem ratio_join {L M : List Mesh} (h1 : okTrain L = true) (h2 : okTrain M = true) (hl : L.length + M.length ≤ 16) (e1 : (ratioR L).err = 0) (e2 : (ratioR M).err = 0) :
    timesR (ratioR L).num (ratioR L).den (ratioR M).num (ratioR M).den = ratioR (L ++ M) := by
  have r1 := ratio_okr h1 e1
  have r2 := ratio_okr h2 e2
  obtain ⟨p1, p2⟩ := prd_pos h1
  obtain ⟨q1, q2⟩ := prd_pos h2
  have hR : ratioR L = low (pr (drs L)) (pr (dns L)) := by rw [ratioR, if_pos h1]
  have hM : ratioR M = low (pr (drs M)) (pr (dns M)) := by rw [ratioR, if_pos h2]
  have hJ : ratioR (L ++ M) = low (pr (drs L) * pr (drs M)) (pr (dns L) * pr (dns M)) := by rw [ratioR, if_pos (ok_join h1 h2 hl), drs_append, dns_append, pr_append, pr_append]
  rw [times_of_ok r1 r2, hJ]
  simp only [Int.toNat_natCast]
  rw [hR] at e1 ⊢
  rw [hM] at e2 ⊢
  obtain ⟨x1, _, x3, _, _⟩ := low_ok _ _ p2 e1
  obtain ⟨y1, _, y3, _, _⟩ := low_ok _ _ q2 e2
  generalize low (pr (drs L)) (pr (dns L)) = x at *
  generalize low (pr (drs M)) (pr (dns M)) = y at *
  refine low_congr _ _ _ _ (one_mul_one x3 y3) (one_mul_one p2 q2) ?_
  calc x.num * y.num * (pr (dns L) * pr (dns M)) = (x.num * pr (dns L)) * (y.num * pr (dns M)) := by ac_rfl
    _ = (pr (drs L) * x.den) * (pr (drs M) * y.den) := by rw [x1, y1]
    _ = pr (drs L) * pr (drs M) * (x.den * y.den) := by ac_rfl

end Go.Proofs.Ytheifigkclegdaa
