/-
  Plain laws of play: with greater play of a mesh the runner may stand where it might before.
-/
import Derived.Test.YtheifigkclegdaaWhere
import Derived.Test.YtheifigkclegdaaOrd
namespace Go.Proofs.Ytheifigkclegdaa

/-- What one mesh adds. -/
theorem playStep_spec {p : Res} {m : Mesh} (hp : 1 ≤ p.den) (hm : m.ok = true) :
    ((playStep p m).err = 0 ∨ playStep p m = ⟨0, 0, 2⟩) ∧
    ((playStep p m).err = 0 → 1 ≤ (playStep p m).den ∧ (playStep p m).num * (1000 * p.den * m.dn.toNat) = (1000 * p.num * m.dr.toNat + m.pl.toNat * p.den) * (playStep p m).den) := by
  have hb := ok_mesh hm
  have hdn : 1 ≤ m.dn.toNat := by omega
  have hD : 1 ≤ p.den * m.dn.toNat := one_mul_one hp hdn
  have hO : 1 ≤ 1000 * m.dn.toNat := by omega
  have ho : (low m.pl.toNat (1000 * m.dn.toNat)).err = 0 := by
    unfold low
    have h1 : m.pl.toNat / Nat.gcd m.pl.toNat (1000 * m.dn.toNat) ≤ m.pl.toNat := Nat.div_le_self _ _
    have h2 : 1000 * m.dn.toNat / Nat.gcd m.pl.toNat (1000 * m.dn.toNat) ≤ 1000 * m.dn.toNat := Nat.div_le_self _ _
    rw [if_pos ⟨by omega, by omega⟩]
  unfold playStep
  by_cases hx : (low (p.num * m.dr.toNat) (p.den * m.dn.toNat)).err = 0
  · rw [if_pos hx]
    have kx := okRatio_low hD hx
    have ko := okRatio_low hO ho
    obtain ⟨x1, _, x2, _, _⟩ := low_ok _ _ hD hx
    obtain ⟨o1, _, o2, _, _⟩ := low_ok _ _ hO ho
    constructor
    · rw [plus_of_ok kx ko]
      exact low_err _ _
    · intro hs
      obtain ⟨_, _, _, _, _, e, n1, _⟩ := plus_spec hs
      simp only [Int.toNat_natCast] at e
      generalize plusR _ _ _ _ = s at *
      generalize low (p.num * m.dr.toNat) (p.den * m.dn.toNat) = x at *
      generalize low m.pl.toNat (1000 * m.dn.toNat) = o at *
      generalize m.dn.toNat = n at *
      generalize m.dr.toNat = d at *
      generalize m.pl.toNat = q at *
      refine ⟨n1, ?_⟩
      have hpos : 0 < x.den * o.den * n := Nat.mul_pos (Nat.mul_pos (by omega) (by omega)) (by omega)
      refine Nat.eq_of_mul_eq_mul_right hpos ?_
      calc s.num * (1000 * p.den * n) * (x.den * o.den * n) = s.num * (x.den * o.den) * (p.den * n) * (1000 * n) := by ac_rfl
        _ = (x.num * o.den + o.num * x.den) * s.den * (p.den * n) * (1000 * n) := by rw [e]
        _ = (x.num * (p.den * n)) * (o.den * s.den * (1000 * n)) + (o.num * (1000 * n)) * (x.den * s.den * (p.den * n)) := by grind
        _ = (p.num * d * x.den) * (o.den * s.den * (1000 * n)) + (q * o.den) * (x.den * s.den * (p.den * n)) := by rw [x1, o1]
        _ = (1000 * p.num * d + q * p.den) * s.den * (x.den * o.den * n) := by grind
  · rw [if_neg hx]
    exact ⟨.inr rfl, fun h => by simp at h⟩

/-- p is at most q. -/
def leR (p q : Res) : Prop := p.num * q.den ≤ q.num * p.den

theorem playStep_mono {p q : Res} {m m' : Mesh} (hp : 1 ≤ p.den) (hq : 1 ≤ q.den) (hm : m.ok = true) (hm' : m'.ok = true) (hd : m'.dr = m.dr) (hn : m'.dn = m.dn) (hl : m.pl ≤ m'.pl) (h : leR p q)
    (h1 : (playStep p m).err = 0) (h2 : (playStep q m').err = 0) : leR (playStep p m) (playStep q m') := by
  obtain ⟨a1, a2⟩ := (playStep_spec hp hm).2 h1
  obtain ⟨b1, b2⟩ := (playStep_spec hq hm').2 h2
  have hb := ok_mesh hm
  have hb' := ok_mesh hm'
  rw [hd, hn] at b2
  unfold leR at h ⊢
  have hdn : 1 ≤ m.dn.toNat := by omega
  have hP : 1 ≤ 1000 * p.den * m.dn.toNat := one_mul_one (by omega) hdn
  have hQ : 1 ≤ 1000 * q.den * m.dn.toNat := one_mul_one (by omega) hdn
  have hpl : m.pl.toNat ≤ m'.pl.toNat := by omega
  have hc := lt_cross hQ hP b1 a1 b2 a2
  generalize playStep p m = s at *
  generalize playStep q m' = s' at *
  generalize m.dn.toNat = n at *
  generalize m.dr.toNat = d at *
  generalize m.pl.toNat = x at *
  generalize m'.pl.toNat = x' at *
  refine Nat.le_of_not_lt fun hlt => ?_
  have hk := hc.1 hlt
  refine absurd hk (Nat.not_lt.2 ?_)
  have k1 : 1000 * p.num * d * (1000 * q.den * n) ≤ 1000 * q.num * d * (1000 * p.den * n) := by
    have := Nat.mul_le_mul_right (1000 * d * 1000 * n) h
    calc 1000 * p.num * d * (1000 * q.den * n) = p.num * q.den * (1000 * d * 1000 * n) := by ac_rfl
      _ ≤ q.num * p.den * (1000 * d * 1000 * n) := this
      _ = 1000 * q.num * d * (1000 * p.den * n) := by ac_rfl
  have k2 : x * p.den * (1000 * q.den * n) ≤ x' * q.den * (1000 * p.den * n) := by
    have := Nat.mul_le_mul_right (p.den * 1000 * q.den * n) hpl
    calc x * p.den * (1000 * q.den * n) = x * (p.den * 1000 * q.den * n) := by ac_rfl
      _ ≤ x' * (p.den * 1000 * q.den * n) := this
      _ = x' * q.den * (1000 * p.den * n) := by ac_rfl
  rw [Nat.add_mul, Nat.add_mul]
  exact Nat.add_le_add k1 k2

/-- The list M is the list L, but for more play. -/
inductive More : List Mesh → List Mesh → Prop
  | nil : More [] []
  | cons {m m' : Mesh} {L M : List Mesh} (hd : m'.dr = m.dr) (hn : m'.dn = m.dn) (hl : m.pl ≤ m'.pl) (h : More L M) : More (m :: L) (m' :: M)

theorem More.refl : ∀ L : List Mesh, More L L
  | [] => .nil
  | _ :: L => .cons rfl rfl (Int.le_refl _) (More.refl L)
theorem More.drs {L M : List Mesh} (h : More L M) : drs M = drs L := by
  induction h with
  | nil => rfl
  | cons hd _ _ _ ih => simp only [Ytheifigkclegdaa.drs, List.map_cons] at ih ⊢; rw [hd, ih]
theorem More.dns {L M : List Mesh} (h : More L M) : dns M = dns L := by
  induction h with
  | nil => rfl
  | cons _ hn _ _ ih => simp only [Ytheifigkclegdaa.dns, List.map_cons] at ih ⊢; rw [hn, ih]
theorem More.len {L M : List Mesh} (h : More L M) : M.length = L.length := by
  induction h with
  | nil => rfl
  | cons _ _ _ _ ih => simp [ih]
theorem More.set {L : List Mesh} {j : Nat} (hj : j < L.length) {m' : Mesh} (hd : m'.dr = L[j].dr) (hn : m'.dn = L[j].dn) (hl : L[j].pl ≤ m'.pl) : More L (L.set j m') := by
  induction L generalizing j with
  | nil => simp at hj
  | cons m L ih =>
    cases j with
    | zero => exact .cons hd hn hl (More.refl L)
    | succ j => exact .cons rfl rfl (Int.le_refl _) (ih (by simpa using hj) hd hn hl)

theorem playGo_err : ∀ (L : List Mesh) (p : Res), 1 ≤ p.den → p.err = 0 → (∀ m ∈ L, m.ok = true) → (playGo L p).err = 0 ∨ playGo L p = ⟨0, 0, 2⟩
  | [], p, _, he, _ => .inl he
  | m :: L, p, hp, _, hm => by
    unfold playGo
    have hs := playStep_spec hp (hm m (by simp))
    by_cases h : (playStep p m).err = 0
    · rw [if_pos h]
      exact playGo_err L _ (hs.2 h).1 h fun m' h' => hm m' (by simp [h'])
    · rw [if_neg h]
      rcases hs.1 with h' | h'
      · exact absurd h' h
      · rw [h']
        exact .inr rfl

theorem playGo_mono {L M : List Mesh} (h : More L M) : ∀ (p q : Res), 1 ≤ p.den → 1 ≤ q.den → leR p q → (∀ m ∈ L, m.ok = true) → (∀ m ∈ M, m.ok = true) → (playGo L p).err = 0 → (playGo M q).err = 0 → leR (playGo L p) (playGo M q) := by
  induction h with
  | nil => intro p q _ _ hl _ _ _ _; exact hl
  | @cons m m' L M hd hn hl hM ih =>
    intro p q hp hq hle h1 h2 e1 e2
    unfold playGo at e1 e2 ⊢
    by_cases f1 : (playStep p m).err = 0
    · by_cases f2 : (playStep q m').err = 0
      · rw [if_pos f1] at e1 ⊢
        rw [if_pos f2] at e2 ⊢
        refine ih _ _ ((playStep_spec hp (h1 m (by simp))).2 f1).1 ((playStep_spec hq (h2 m' (by simp))).2 f2).1 ?_ (fun x hx => h1 x (by simp [hx])) (fun x hx => h2 x (by simp [hx])) e1 e2
        exact playStep_mono hp hq (h1 m (by simp)) (h2 m' (by simp)) hd hn hl hle f1 f2
      · rw [if_neg f2] at e2
        exact absurd e2 f2
    · rw [if_neg f1] at e1
      exact absurd e1 f1

theorem span_le (r p : Res) (sec t : Nat) : (spanR r p sec t).1 ≤ (spanR r p sec t).2 := by
  simp only [spanR]
  generalize t * r.num * sec / r.den = x
  generalize p.num * sec / p.den = y
  split <;> omega

theorem span_none {r p : Res} {sec t : Nat} (hp : p.num = 0) : (spanR r p sec t).1 = (spanR r p sec t).2 := by
  simp only [spanR, hp, Nat.zero_mul, Nat.zero_div, Nat.zero_mod]
  rw [if_neg (by omega)]
  simp

/-- With more play the runner may stand at least as far back. -/
theorem span_mono {r p q : Res} {sec t : Nat} (_hr : 1 ≤ r.den) (hp : 1 ≤ p.den) (hq : 1 ≤ q.den) (h : leR p q) : (spanR r q sec t).1 ≤ (spanR r p sec t).1 ∧ (spanR r q sec t).2 = (spanR r p sec t).2 := by
  refine ⟨?_, rfl⟩
  unfold leR at h
  simp only [spanR]
  have hb : p.num * sec * q.den ≤ q.num * sec * p.den := by
    have := Nat.mul_le_mul_right sec h
    calc p.num * sec * q.den = p.num * q.den * sec := by ac_rfl
      _ ≤ q.num * p.den * sec := this
      _ = q.num * sec * p.den := by ac_rfl
  generalize p.num * sec = b at *
  generalize q.num * sec = b' at *
  generalize t * r.num * sec = a at *
  have hB : b / p.den ≤ b' / q.den := by
    rw [Nat.le_div_iff_mul_le (by omega)]
    refine Nat.le_of_mul_le_mul_right ?_ (show 0 < p.den by omega)
    refine Nat.le_trans ?_ hb
    have h1 := Nat.div_mul_le_self b p.den
    calc b / p.den * q.den * p.den = b / p.den * p.den * q.den := by ac_rfl
      _ ≤ b * q.den := Nat.mul_le_mul_right _ h1
  rcases Nat.lt_or_ge (b / p.den) (b' / q.den) with hlt | hge
  · split <;> split <;> omega
  · have he : b / p.den = b' / q.den := by omega
    by_cases hc : a % r.den * p.den < b % p.den * r.den
    · have hc' : a % r.den * q.den < b' % q.den * r.den := by
        have hβ : b % p.den * q.den ≤ b' % q.den * p.den := by
          have e1 := Nat.div_add_mod b p.den
          have e2 := Nat.div_add_mod b' q.den
          rw [he] at e1
          generalize b' / q.den = B at *
          generalize b % p.den = y at *
          generalize b' % q.den = y' at *
          rw [← e1, ← e2, Nat.add_mul, Nat.add_mul] at hb
          have e3 : p.den * B * q.den = q.den * B * p.den := by ac_rfl
          rw [e3] at hb
          exact Nat.le_of_add_le_add_left hb
        refine Nat.lt_of_mul_lt_mul_right (a := p.den) ?_
        have h1 := (Nat.mul_lt_mul_right (show 0 < q.den by omega)).2 hc
        calc a % r.den * q.den * p.den = a % r.den * p.den * q.den := by ac_rfl
          _ < b % p.den * r.den * q.den := h1
          _ = b % p.den * q.den * r.den := by ac_rfl
          _ ≤ b' % q.den * p.den * r.den := Nat.mul_le_mul_right _ hβ
          _ = b' % q.den * r.den * p.den := by ac_rfl
      rw [if_pos hc, if_pos hc']
      omega
    · rw [if_neg hc]
      split <;> omega

/-- What the law asks of Where and Play. -/
theorem play_facts {L : List Mesh} {sec t : Int} (h : (whereR L sec t).2 = 0) :
    okTrain L = true ∧ (playGo L ⟨0, 1, 0⟩).err = 0 ∧ (whereR L sec t).1.1 ≤ (whereR L sec t).1.2 ∧ ((playGo L ⟨0, 1, 0⟩).num = 0 → (whereR L sec t).1.1 = (whereR L sec t).1.2) ∧
    ∀ M, More L M → (∀ m ∈ M, m.ok = true) → (whereR M sec t).2 = 2 ∨ ((whereR M sec t).2 = 0 ∧ (whereR M sec t).1.1 ≤ (whereR L sec t).1.1 ∧ (whereR M sec t).1.2 = (whereR L sec t).1.2) := by
  unfold whereR at h
  split at h
  · rename_i ha
    split at h
    · rename_i hs
      split at h
      · rename_i hr
        obtain ⟨hok, ht0, ht1⟩ := asked_ok ha
        obtain ⟨k1, k2, k3⟩ := ok_train hok
        have hW : whereR L sec t = (spanR (lastR L) (playGo L ⟨0, 1, 0⟩) sec.toNat t.toNat, 0) := by rw [whereR, if_pos ha, if_pos hs, if_pos hr]
        have hb := runner_bounds hok hr
        have hpe : (playGo L ⟨0, 1, 0⟩).err = 0 ∧ (lastR L).err = 0 := by
          unfold runnerE at hr
          split at hr
          · rename_i h0; exact ⟨hr, h0⟩
          · rename_i h0; exact absurd hr h0
        rw [hW]
        refine ⟨hok, hpe.1, span_le _ _ _ _, fun h0 => span_none h0, fun M hM hMo => ?_⟩
        have hokM : okTrain M = true := by
          simp only [okTrain, inB, Bool.and_eq_true, decide_eq_true_eq, List.all_eq_true, hM.len]
          exact ⟨by omega, hMo⟩
        have haM : askedR M t = 0 := by rw [askedR, if_pos hokM, if_pos (by simp [inB]; omega)]
        have hlast : lastR M = lastR L := by
          have e1 : drs (M.take M.length) = drs (L.take L.length) := by rw [List.take_length, List.take_length]; exact hM.drs
          have e2 : dns (M.take M.length) = dns (L.take L.length) := by rw [List.take_length, List.take_length]; exact hM.dns
          rw [lastR, lastR, shaftR, shaftR, e1, e2, hM.drs]
        rcases playGo_err M ⟨0, 1, 0⟩ (by simp) rfl hMo with he | he
        · have hrM : runnerE M = 0 := by rw [runnerE, hlast, if_pos hpe.2]; exact he
          have hWM : whereR M sec t = (spanR (lastR L) (playGo M ⟨0, 1, 0⟩) sec.toNat t.toNat, 0) := by rw [whereR, if_pos haM, if_pos hs, if_pos hrM, hlast]
          have hbM := runner_bounds hokM hrM
          rw [hWM]
          refine .inr ⟨rfl, ?_⟩
          exact span_mono hb.2.1 hb.2.2.2.2.1 hbM.2.2.2.2.1 (playGo_mono hM _ _ (by simp) (by simp) (Nat.le_refl _) k3 hMo hpe.1 he)
        · have hrM : runnerE M = 2 := by rw [runnerE, hlast, if_pos hpe.2, he]
          refine .inl ?_
          rw [whereR, if_pos haM, if_pos hs, if_neg (by omega), hrM]
          rfl
      · rename_i hr
        simp at h
        exact absurd h hr
    · simp at h
  · rename_i ha
    exact absurd h ha

theorem where_bad {L : List Mesh} {sec t : Int} (h : (whereR L sec t).2 ≠ 0) : (whereR L sec t).1 = (0, 0) := by
  unfold whereR at h ⊢
  split
  · rename_i h1
    rw [if_pos h1] at h
    split
    · rename_i h2
      rw [if_pos h2] at h
      split
      · rename_i h3
        rw [if_pos h3] at h
        exact absurd rfl h
      · rfl
    · rfl
  · rfl

end Go.Proofs.Ytheifigkclegdaa
