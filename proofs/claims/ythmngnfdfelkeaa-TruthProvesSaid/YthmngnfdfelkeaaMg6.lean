/-
  What is proved: the contracts of leads, poor, total, with, still, fits.
  What is proved: the contracts of poor, with, still, fits.
-/
import Derived.Test.YthmngnfdfelkeaaOpenMg
import Derived.Deep.RegionHeld3
namespace Go.Proofs.Ythmngnfdfelkeaa
open Go.RowKit
attribute [local go_sem] Fac.val pairV
attribute [local go_sem ↓] max_int min_int

/-- How many leads, or 200001. -/
def leadsF (s : Stn) : Nat → Int
  | 0 => 1
  | n + 1 => min (leadsF s n * ((s.pockets.getD n ((0, 0), 0)).2 + 1)) 200001

theorem leadsF_bound {s : Stn} (h : s.ok = true) : ∀ n, n ≤ s.pockets.length → 1 ≤ leadsF s n ∧ leadsF s n ≤ 200001
  | 0, _ => by simp [leadsF]
  | n + 1, hn => by
    obtain ⟨i1, i2⟩ := leadsF_bound h n (by omega)
    obtain ⟨_, _, _, _, _, _, _, _, hp⟩ := stn_ok h
    obtain ⟨_, p1, p2⟩ := hp _ (getD_mem ((0, 0), 0) (show n < s.pockets.length by omega))
    simp only [leadsF]
    generalize (s.pockets.getD n ((0, 0), 0)).2 = m at *
    have := Int.mul_le_mul (a := 1) (b := 1) (c := leadsF s n) (d := m + 1) i1 (by omega) (by omega) (by omega)
    omega

set_option maxHeartbeats 1000000 in
theorem leads_any (g : Nat) (s : Stn) (z : Loc) (m : Array Value) (w : World) (R : Bk w g 98 (s.cells z ++ m)) (hs : StAt w s z) (hok : s.ok = true) :
    Calls Try.prog 107 #[.pointer (some ⟨g, 0, none⟩)] w fun e w' => e = .returned (.int .i64 (leadsF s s.pockets.length)) ∧ Below w.heap.size w w' := by
  have n4 := hs.n4
  obtain ⟨x0, x1, x2, x3, x4, x5, x6, x7⟩ := stn_cell R
  have HB := Lib.hid (And.intro hs (And.intro hok R))
  clear hs hok x0 x1 x2 x3 x4 x5 x7 R
  go_enter Try.func107, Try.ntmps107
  go_wp2_with fail
  clear x6
  go_loopw [3, 12] (fun v i wr => ∃ k : Nat, k ≤ s.pockets.length ∧ i = .int .i64 k ∧ v = .int .i64 (leadsF s k) ∧ Below w.heap.size w wr) (fun _ i _ => s.pockets.length - (intOf i).toNat)
  case atStart => exact ⟨0, Nat.zero_le _, rfl, rfl, Below.refl _ _⟩
  case round =>
    obtain ⟨k, hk, rfl, rfl, hB⟩ := hrel
    by_cases hlt : k < s.pockets.length
    · have hkI : (k : Int) < s.pockets.length := by omega
      obtain ⟨b, off, hA, hb, hc⟩ := (HB.out.1.below hB).pockets.pk (by omega)
      obtain ⟨c0, c1, c2⟩ := hc k hlt
      obtain ⟨i1, i2⟩ := leadsF_bound HB.out.2.1 k (by omega)
      obtain ⟨_, _, _, _, _, _, _, _, hp⟩ := stn_ok HB.out.2.1
      obtain ⟨_, p1, p2⟩ := hp _ (getD_mem ((0, 0), 0) hlt)
      have HN := Lib.hid (show leadsF s (k + 1) = min (leadsF s k * ((s.pockets.getD k ((0, 0), 0)).2 + 1)) 200001 from rfl)
      clear hc hp
      generalize leadsF s k = v at *
      generalize s.pockets.getD k ((0, 0), 0) = p at *
      obtain ⟨⟨px, py⟩, pm⟩ := p
      simp only at c0 c1 c2 p1 p2 HN
      have hm : 0 ≤ v * (pm + 1) ∧ v * (pm + 1) ≤ 200001 * 256 := ⟨Int.mul_nonneg (by omega) (by omega), Int.mul_le_mul (by omega) (by omega) (by omega) (by omega)⟩
      have hz := hB.size
      rw [hA]
      clear hA
      go_wp2_with fail
      go_roundw
      case rel => exact ⟨k + 1, by omega, by go_num, by rw [HN.out], hB.alloc hz _⟩
      case measure => simp [intOf]; omega
    · have : k = s.pockets.length := by omega
      subst this
      go_wp2_with fail
      go_ret
      exact ⟨rfl, hB⟩

/-! ### The sum of numbers -/
def sumF (l : List Int) : Nat → Int
  | 0 => 0
  | n + 1 => sumF l n + l.getD n 0

theorem sumF_bound {l : List Int} {b : Int} (h : ∀ x ∈ l, -b ≤ x ∧ x ≤ b) : ∀ n, n ≤ l.length → -((n : Int) * b) ≤ sumF l n ∧ sumF l n ≤ (n : Int) * b
  | 0, _ => by simp [sumF]
  | n + 1, hn => by
    have ih := sumF_bound h n (by omega)
    have hx := h _ (getD_mem 0 (show n < l.length by omega))
    simp only [sumF]
    have e : ((n + 1 : Nat) : Int) * b = n * b + b := by rw [Int.natCast_add, Int.add_mul]; simp
    rw [e]
    omega

set_option maxHeartbeats 1000000 in
theorem total_any (A : Option Addr) (c : Nat) (l : List Int) (w : World) (hL : RowAt w A (intCells l)) (hn : l.length ≤ 1000000) (hb : ∀ x ∈ l, -1000000000 ≤ x ∧ x ≤ 1000000000) :
    Calls Try.prog 62 #[.slice A l.length c] w fun e w' => e = .returned (.int .i64 (sumF l l.length)) ∧ w = w' := by
  have HB := Lib.hid (And.intro hL hb)
  clear hL hb
  go_enter Try.func62, Try.ntmps62
  go_wp2
  go_loop [3, 8] (fun v i => ∃ k : Nat, k ≤ l.length ∧ i = .int .i64 k ∧ v = .int .i64 (sumF l k)) (fun _ i => l.length - (intOf i).toNat)
  case atStart => exact ⟨0, Nat.zero_le _, rfl, rfl⟩
  case round =>
    obtain ⟨k, hk, rfl, rfl⟩ := hrel
    by_cases hlt : k < l.length
    · have hkI : (k : Int) < l.length := by omega
      obtain ⟨b, off, hA, hb, hc⟩ := HB.out.1.intD (by omega)
      have c0 := hc k hlt
      obtain ⟨i1, i2⟩ := sumF_bound HB.out.2 k (by omega)
      obtain ⟨j1, j2⟩ := HB.out.2 _ (getD_mem 0 hlt)
      have HN := Lib.hid (show sumF l (k + 1) = sumF l k + l.getD k 0 from rfl)
      clear hc
      generalize sumF l k = v at *
      generalize l.getD k 0 = x at *
      rw [hA]
      clear hA
      go_wp2
      go_round
      case rel => exact ⟨k + 1, by omega, by go_num, by rw [HN.out]⟩
      case measure => simp [intOf]; omega
    · have : k = l.length := by omega
      subst this
      go_wp2
      go_ret
      exact ⟨rfl, rfl⟩

end Go.Proofs.Ythmngnfdfelkeaa
namespace Go.Proofs.Ythmngnfdfelkeaa
open Go.RowKit
attribute [local go_sem] Fac.val pairV
attribute [local go_sem ↓] max_int min_int

/-- A runner in memory. -/
def runM (s : Stn) : Array Value := #[.int .i64 (momX s s.f.kinds.length), .int .i64 (momY s s.f.kinds.length)]

def PoorPost (s : Stn) (z : Loc) (w : World) (e : Ending) (w' : World) : Prop :=
  Below w.heap.size w w' ∧ ((s.ok = false ∧ e = .returned (.tuple #[.pointer none, .int .i64 60])) ∨
    (s.ok = true ∧ 200000 < leadsF s s.pockets.length ∧ e = .returned (.tuple #[.pointer none, .int .i64 2])) ∨
    (s.ok = true ∧ leadsF s s.pockets.length ≤ 200000 ∧ ∃ g, e = .returned (.tuple #[.pointer (some ⟨g, 0, none⟩), .int .i64 0]) ∧ w.heap.size ≤ g ∧ Bk w' g 98 (s.cells z ++ runM s)))

set_option maxHeartbeats 2000000 in
theorem poor_any (s : Stn) (z : Loc) (w : World) (hs : StAt w s z) : Calls Try.prog 64 #[s.val z] w (PoorPost s z w) := by
  have HO : Hid (∀ W, StAt W s z → Calls Try.prog 71 #[.agg (s.cells z)] W (OpenPost s z W)) := fun W h => open_any s z W h
  unfold Stn.cells at HO
  unfold Stn.val Stn.cells
  go_enter Try.func64, Try.ntmps64
  go_wp2_with fail
  refine (HO.out _ (hs.alloc _)).mono ?_
  rintro e w1 ⟨hb1, h⟩
  have hB : Below w.heap.size w w1 := ((Below.refl _ _).alloc (Nat.le_refl _) _).trans (hb1.mono (by simp))
  rcases h with ⟨h1, rfl⟩ | ⟨h1, g, rfl, hg, R⟩
  · go_wp2_with fail
    go_ret2
    exact ⟨hB, .inl ⟨h1, rfl⟩⟩
  · have hgw : w.heap.size ≤ g := by simp at hg; omega
    have HL := Lib.hid (leads_any g s z _ w1 R (hs.below hB) h1)
    have HR := Lib.hid R
    clear hg R hb1
    obtain ⟨i1, i2⟩ := leadsF_bound h1 s.pockets.length (Nat.le_refl _)
    by_cases hle : leadsF s s.pockets.length ≤ 200000
    · have HP := Lib.hid (And.intro h1 hle)
      have HX := hle
      clear h1 hle
      obtain ⟨v, hv⟩ : ∃ v, leadsF s s.pockets.length = v := ⟨_, rfl⟩
      rw [hv] at HL i1 i2 HX
      clear hv
      go_wp2_with fail
      refine (HL.out).mono ?_
      rintro e w2 ⟨rfl, hb2⟩
      have HR2 := Lib.hid (HR.out.keep hb2)
      have hB2 := hB.trans (hb2.mono hB.size)
      go_wp2_with fail
      go_ret2
      exact ⟨hB2, .inr (.inr ⟨HP.out.1, HP.out.2, g, rfl, hgw, HR2.out⟩)⟩
    · have hlt : 200000 < leadsF s s.pockets.length := by omega
      have HP := Lib.hid (And.intro h1 hlt)
      have HX := hlt
      clear h1 hlt hle
      obtain ⟨v, hv⟩ : ∃ v, leadsF s s.pockets.length = v := ⟨_, rfl⟩
      rw [hv] at HL i1 i2 HX
      clear hv
      go_wp2_with fail
      refine (HL.out).mono ?_
      rintro e w2 ⟨rfl, hb2⟩
      have hB2 := hB.trans (hb2.mono hB.size)
      go_wp2_with fail
      go_ret2
      exact ⟨hB2, .inr (.inl ⟨HP.out.1, HP.out.2, rfl⟩)⟩

/-! ### The moment with a lead -/
def withX (s : Stn) (l : List Int) : Nat → Int
  | 0 => momX s s.f.kinds.length
  | n + 1 => withX s l n + (s.pockets.getD n ((0, 0), 0)).1.1 * l.getD n 0
def withY (s : Stn) (l : List Int) : Nat → Int
  | 0 => momY s s.f.kinds.length
  | n + 1 => withY s l n + (s.pockets.getD n ((0, 0), 0)).1.2 * l.getD n 0

/-- The first n numbers are within what the pockets hold. -/
def leadP (s : Stn) (l : List Int) : Prop := l.length = s.pockets.length ∧ ∀ i, i < l.length → 0 ≤ l.getD i 0 ∧ l.getD i 0 ≤ (s.pockets.getD i ((0, 0), 0)).2

theorem term_bound {s : Stn} {l : List Int} (h : s.ok = true) (hl : leadP s l) {n : Nat} (hn : n < l.length) :
    (-255000000 ≤ (s.pockets.getD n ((0, 0), 0)).1.1 * l.getD n 0 ∧ (s.pockets.getD n ((0, 0), 0)).1.1 * l.getD n 0 ≤ 255000000) ∧ -255000000 ≤ (s.pockets.getD n ((0, 0), 0)).1.2 * l.getD n 0 ∧ (s.pockets.getD n ((0, 0), 0)).1.2 * l.getD n 0 ≤ 255000000 := by
  obtain ⟨_, _, _, _, _, _, _, _, hp⟩ := stn_ok h
  obtain ⟨⟨p1, p2⟩, p3, p4⟩ := hp _ (getD_mem ((0, 0), 0) (show n < s.pockets.length by have := hl.1; omega))
  obtain ⟨q1, q2⟩ := hl.2 n hn
  generalize s.pockets.getD n ((0, 0), 0) = p at *
  generalize l.getD n 0 = x at *
  have key : ∀ a : Int, -1000000 ≤ a ∧ a ≤ 1000000 → -255000000 ≤ a * x ∧ a * x ≤ 255000000 := fun a ha => by
    have := mul_bound (y := x) (x := a) (a := 255) (b := 1000000) q1 (by omega) ha.1 ha.2
    have e : x * a = a * x := Int.mul_comm _ _
    omega
  exact ⟨key _ p1, key _ p2⟩

theorem with_bound {s : Stn} {l : List Int} (h : s.ok = true) (hl : leadP s l) : ∀ n, n ≤ l.length → (-(730000000000000 + (n : Int) * 255000000) ≤ withX s l n ∧ withX s l n ≤ 730000000000000 + (n : Int) * 255000000) ∧ -(730000000000000 + (n : Int) * 255000000) ≤ withY s l n ∧ withY s l n ≤ 730000000000000 + (n : Int) * 255000000
  | 0, _ => by
    have hm := mom_bound h s.f.kinds.length (Nat.le_refl _)
    obtain ⟨_, _, _, _, _, _, _, k8⟩ := fac_ok (stn_ok h).1
    simp only [withX, withY]
    omega
  | n + 1, hn => by
    have ih := with_bound h hl n (by omega)
    have ht := term_bound h hl (show n < l.length by omega)
    simp only [withX, withY]
    generalize (s.pockets.getD n ((0, 0), 0)).1.1 * l.getD n 0 = a at *
    generalize (s.pockets.getD n ((0, 0), 0)).1.2 * l.getD n 0 = b at *
    omega

set_option maxRecDepth 100000 in
set_option maxHeartbeats 4000000 in
theorem with_any (g : Nat) (A : Option Addr) (c : Nat) (s : Stn) (z : Loc) (l : List Int) (w : World) (R : Bk w g 98 (s.cells z ++ runM s)) (hs : StAt w s z) (hok : s.ok = true) (hl : RowAt w A (intCells l)) (hlp : leadP s l) :
    Calls Try.prog 94 #[.pointer (some ⟨g, 0, none⟩), .slice A l.length c] w fun e w' => e = .returned (.agg #[.int .i64 (withX s l l.length), .int .i64 (withY s l l.length)]) ∧ Below w.heap.size w w' := by
  have hln : l.length ≤ 8 := by have := (stn_ok hok).2.2.2.2.1; have := hlp.1; omega
  have q0 := R.cell 8
  have q1 := R.cell 9
  rw [show (s.cells z ++ runM s)[8]? = some (Value.int .i64 (withX s l 0)) from rfl] at q0
  rw [show (s.cells z ++ runM s)[9]? = some (Value.int .i64 (withY s l 0)) from rfl] at q1
  have hgl := R.lt
  have HH := Lib.hid (And.intro (And.intro hs hok) (And.intro hl (And.intro hlp R)))
  clear hs hok hl hlp R
  go_enter Try.func94, Try.ntmps94
  go_upto_region 2 with fail
  have E : Bk ((w.alloc (.cells #[.int .i64 0, .int .i64 0] 96)).alloc (.cells #[.int .i64 (withX s l 0), .int .i64 (withY s l 0)] 96)) w.heap.size 96 #[.int .i64 0, .int .i64 0] := (bk_last rfl).alloc _
  have V : Bk ((w.alloc (.cells #[.int .i64 0, .int .i64 0] 96)).alloc (.cells #[.int .i64 (withX s l 0), .int .i64 (withY s l 0)] 96)) (w.heap.size + 1) 96 #[.int .i64 (withX s l 0), .int .i64 (withY s l 0)] := bk_last (by simp)
  have hB : Below w.heap.size w ((w.alloc (.cells #[.int .i64 0, .int .i64 0] 96)).alloc (.cells #[.int .i64 (withX s l 0), .int .i64 (withY s l 0)] 96)) := ((Below.refl _ _).alloc (Nat.le_refl _) _).alloc (by simp) _
  generalize (w.alloc (.cells #[.int .i64 0, .int .i64 0] 96)).alloc (.cells _ 96) = U at *
  clear q0 q1
  go_wp2_with fail
  go_loopw [14] (fun i wr => ∃ k : Nat, k ≤ l.length ∧ i = .int .i64 k ∧ Bk wr w.heap.size 96 #[.int .i64 0, .int .i64 0] ∧ Bk wr (w.heap.size + 1) 96 #[.int .i64 (withX s l k), .int .i64 (withY s l k)] ∧ Below w.heap.size w wr) (fun i _ => l.length - (intOf i).toNat)
  case atStart => exact ⟨0, Nat.zero_le _, rfl, E, V, hB⟩
  case round =>
    clear E V hB
    obtain ⟨k, hk, rfl, E, V, hB⟩ := hrel
    by_cases hlt : k < l.length
    · have hkI : (k : Int) < l.length := by omega
      have hs := HH.out.1.1.below hB
      have hok := HH.out.1.2
      have hlp := HH.out.2.2.1
      have hkp : k < s.pockets.length := by have := hlp.1; omega
      have hkpI : (k : Int) < s.pockets.length := by omega
      have R := HH.out.2.2.2.below hB hgl
      obtain ⟨_, _, _, _, _, _, x6, _⟩ := stn_cell R
      obtain ⟨b2, off2, hA2, hb2, hc2⟩ := (HH.out.2.1.below hB).intD (by omega)
      have d0 := hc2 k hlt
      obtain ⟨b, off, hA, hb, hc⟩ := hs.pockets.pk (by omega)
      obtain ⟨c0, c1, _⟩ := hc k hkp
      have hw := with_bound hok hlp k (by omega)
      obtain ⟨⟨t1, t2⟩, t3, t4⟩ := term_bound hok hlp hlt
      have HN : Hid (withX s l (k + 1) = withX s l k + (s.pockets.getD k ((0, 0), 0)).1.1 * l.getD k 0 ∧ withY s l (k + 1) = withY s l k + (s.pockets.getD k ((0, 0), 0)).1.2 * l.getD k 0) := ⟨rfl, rfl⟩
      clear hc hc2 hs hok hlp
      generalize hMX : withX s l (k + 1) = MX at *
      generalize hMY : withY s l (k + 1) = MY at *
      have HMX := Lib.hid hMX
      have HMY := Lib.hid hMY
      clear hMX hMY
      generalize withX s l k = mx at *
      generalize withY s l k = my at *
      generalize s.pockets.getD k ((0, 0), 0) = p at *
      generalize l.getD k 0 = x at *
      obtain ⟨⟨px, py⟩, pm⟩ := p
      simp only at c0 c1 t1 t2 t3 t4 HN
      have HP : Hid (∀ W : World, Calls Try.prog 115 #[.agg #[.int .i64 mx, .int .i64 my], .agg #[.int .i64 px, .int .i64 py], .int .i64 x] W fun e w' => e = .returned (.agg #[.int .i64 (mx + px * x), .int .i64 (my + py * x)]) ∧ Below W.heap.size W w') := fun W => plus_any _ _ _ _ _ _ (by omega) (by omega) (by omega) (by omega)
      rw [← HN.out.1, ← HN.out.2] at HP
      clear t1 t2 t3 t4 hw HN
      rw [hA2]
      clear hA2
      go_upto_region 5 with fail
      rw [hA] at x6
      have v0 := V.cell 0
      have v1 := V.cell 1
      simp at v0 v1
      refine wp_region_extmix 12 (by kernel_rfl) (by kernel_rfl) (fun _ _ d _ _ h => by cases d <;> exact h) ?_
      simp only [List.take_succ_cons, List.take_zero, List.drop_succ_cons, List.drop_zero]
      have X6 := fun x : Ext wr => keepc x.bel x6
      have C0 := fun x : Ext wr => keepc x.bel c0
      have C1 := fun x : Ext wr => keepc x.bel c1
      have V0 := fun x : Ext wr => keepc x.bel v0
      have V1 := fun x : Ext wr => keepc x.bel v1
      clear x6 c0 c1 v0 v1 d0
      repeat (go_big_quiet_step ((go_at_call 115; exact ext_of (HP.out _))))
      refine wpQuiet_nil ?_
      rintro _ ⟨y, rfl⟩
      clear X6 C0 C1 V0 V1 hA HP R
      have hb1 := y.bel
      generalize y.w = w2 at hb1 ⊢
      replace V := V.keep hb1
      replace E := E.keep hb1
      replace hB := hB.trans (hb1.mono hB.size)
      have v0 := V.cell 0
      have v1 := V.cell 1
      have v2 := V.fz 0
      have v3 := V.fz 1
      simp at v0 v1
      have HV2 := Lib.hid ((V.put 0 (.int .i64 MX)).put 1 (.int .i64 MY))
      have HE2 := Lib.hid ((E.far (p := ⟨w.heap.size + 1, 0, none⟩) (by simp) (.int .i64 MX)).far (p := ⟨w.heap.size + 1, 1, none⟩) (by simp) (.int .i64 MY))
      have HB2 := Lib.hid ((hB.setCell (p := ⟨w.heap.size + 1, 0, none⟩) (by simp) (.int .i64 MX)).setCell (p := ⟨w.heap.size + 1, 1, none⟩) (by simp) (.int .i64 MY))
      clear hb1
      go_wp2_with fail
      go_roundw
      case rel => exact ⟨k + 1, by omega, by go_num, HE2.out, by rw [HMX.out, HMY.out]; exact HV2.out, HB2.out⟩
      case measure => simp [intOf]; omega
    · have : k = l.length := by omega
      subst this
      have v0 := V.cell 0
      have v1 := V.cell 1
      have e0 := E.cell 0
      have e1 := E.cell 1
      have e2 := E.fz 0
      have e3 := E.fz 1
      have El := E.lt
      have Vl := V.lt
      simp at v0 v1 e0 e1
      go_wp2_with fail
      refine bodyPost_ret (v := .agg #[.int .i64 (withX s l l.length), .int .i64 (withY s l l.length)]) (by simp [results, Try.results94, go_sem, e0, e1]) rfl ⟨rfl, ?_⟩
      repeat (first | exact hB | refine Below.setCell ?_ (by simp <;> omega) _ | refine Below.alloc ?_ (by simp <;> omega) _ | refine below_drewN ?_ _)

/-- Whether a lead balances. -/
def stillB (s : Stn) (l : List Int) : Bool := inB (withX s l l.length) (-s.tol) s.tol && inB (withY s l l.length) (-s.tol) s.tol

set_option maxRecDepth 100000 in
set_option maxHeartbeats 4000000 in
theorem still_any (g : Nat) (A : Option Addr) (c : Nat) (s : Stn) (z : Loc) (l : List Int) (w : World) (R : Bk w g 98 (s.cells z ++ runM s)) (hs : StAt w s z) (hok : s.ok = true) (hl : RowAt w A (intCells l)) (hlp : leadP s l) :
    Calls Try.prog 109 #[.pointer (some ⟨g, 0, none⟩), .slice A l.length c] w fun e w' => e = .returned (.bool (stillB s l)) ∧ Below w.heap.size w w' := by
  have HW := Lib.hid (with_any g A c s z l w R hs hok hl hlp)
  have hst : stillB s l = flatB s.tol [withX s l l.length, withY s l l.length] := by simp [stillB, flatB]
  rw [hst]
  obtain ⟨_, _, _, _, _, t0, t1, _⟩ := stn_ok hok
  clear hst hl hlp hok hs
  generalize withX s l l.length = vx at *
  generalize withY s l l.length = vy at *
  have HF : Hid (∀ (W : World) (q : Nat), RowAt W (some ⟨q, 0, none⟩) (intCells [vx, vy]) → Calls Try.prog 67 #[.int .i64 s.tol, .slice (some ⟨q, 0, none⟩) 2 2] W fun e w' => e = .returned (.bool (flatB s.tol [vx, vy])) ∧ Below W.heap.size W w') := fun W q h => flat_any _ 2 s.tol [vx, vy] W h (by simp) t0 (by omega)
  go_enter Try.func109, Try.ntmps109
  go_wp2_with fail
  refine (HW.out).mono ?_
  rintro e w1 ⟨rfl, hb1⟩
  have x7 := (stn_cell (R.keep hb1)).2.2.2.2.2.2.2
  have hg1 := (R.keep hb1).lt
  clear HW R
  go_upto_region 2 with fail
  have V : Bk (w1.alloc (.cells #[.int .i64 vx, .int .i64 vy] 96)) w1.heap.size 96 #[.int .i64 vx, .int .i64 vy] := bk_last rfl
  replace x7 := (World.cell?_alloc_lt w1 (.cells #[.int .i64 vx, .int .i64 vy] 96) ⟨g, 7, none⟩ hg1).trans x7
  have hB := hb1.alloc hb1.size (.cells #[.int .i64 vx, .int .i64 vy] 96)
  have hq : w1.heap.size < (w1.alloc (.cells #[.int .i64 vx, .int .i64 vy] 96)).heap.size := V.lt
  have hg2 : g < (w1.alloc (.cells #[.int .i64 vx, .int .i64 vy] 96)).heap.size := by simp; omega
  generalize w1.alloc (.cells _ 96) = U at *
  generalize w1.heap.size = q at *
  have v0 := V.cell 0
  have v1 := V.cell 1
  simp at v0 v1
  clear V hb1 hg1
  go_region_held3 (fun w' => w'.cell? ⟨g, 7, none⟩ = some (.int .i64 s.tol) ∧ w'.cell? ⟨q, 0, none⟩ = some (.int .i64 vx) ∧ w'.cell? ⟨q, 1, none⟩ = some (.int .i64 vy))
    (first | go_keep | (constructor <;> go_keep) | (go_split_ands; exact ⟨keepc hb2 ‹_›, keepc hb2 ‹_›, keepc hb2 ‹_›⟩))
    ((first
      | (go_at_call 67; refine (HF.out _ _ (row_two _ vx vy 3 _ rfl).drew_).mono ?_; rintro e w2 ⟨rfl, hb2⟩)
      | (go_at_call 67; refine (HF.out _ _ (row_two _ vx vy 3 _ rfl)).mono ?_; rintro e w2 ⟨rfl, hb2⟩)))
  all_goals
    go_wp2_with fail
    go_ret
    exact ⟨rfl, (hB.alloc hB.size _).drew.trans (hb2.mono (by have := hB.size; simp; omega))⟩

/-! ### Whether numbers are a lead -/
def leadB (s : Stn) (l : List Int) : Bool := decide (l.length = s.pockets.length) && (List.range l.length).all fun i => decide (0 ≤ l.getD i 0 ∧ l.getD i 0 ≤ (s.pockets.getD i ((0, 0), 0)).2)
theorem leadB_iff (s : Stn) (l : List Int) : leadB s l = true ↔ leadP s l := by
  simp only [leadB, leadP, Bool.and_eq_true, decide_eq_true_eq, List.all_eq_true, List.mem_range]
theorem leadB_bad {s : Stn} {l : List Int} {k : Nat} (hk : k < l.length) (h : s.pockets.length ≤ k ∨ l.getD k 0 < 0 ∨ (s.pockets.getD k ((0, 0), 0)).2 < l.getD k 0) : leadB s l = false := by
  rw [← Bool.not_eq_true, leadB_iff]
  rintro ⟨h1, h2⟩
  have := h2 k hk
  omega

set_option maxHeartbeats 2000000 in
theorem fits_any (g : Nat) (A : Option Addr) (c : Nat) (s : Stn) (z : Loc) (m : Array Value) (l : List Int) (w : World) (R : Bk w g 98 (s.cells z ++ m)) (hs : StAt w s z) (hl : RowAt w A (intCells l)) (hn : l.length ≤ 9223372036854775807) :
    Calls Try.prog 93 #[.pointer (some ⟨g, 0, none⟩), .slice A l.length c] w fun e w' => e = .returned (.bool (leadB s l)) ∧ w = w' := by
  have n4 := hs.n4
  obtain ⟨_, _, _, _, _, _, x6, _⟩ := stn_cell R
  have HB := Lib.hid (And.intro hs hl)
  clear hs hl R
  go_enter Try.func93, Try.ntmps93
  go_wp2
  go_loop [9] (fun i => ∃ k : Nat, k ≤ l.length ∧ i = .int .i64 k ∧ Hid (∀ j, j < k → j < s.pockets.length ∧ 0 ≤ l.getD j 0 ∧ l.getD j 0 ≤ (s.pockets.getD j ((0, 0), 0)).2)) (fun i => l.length - (intOf i).toNat)
  case atStart => exact ⟨0, Nat.zero_le _, rfl, fun j h => absurd h (by omega)⟩
  case round =>
    obtain ⟨k, hk, rfl, hall⟩ := hrel
    by_cases hlt : k < l.length
    · have hkI : (k : Int) < l.length := by omega
      obtain ⟨b2, off2, hA2, hb2, hc2⟩ := HB.out.2.intD (by omega)
      have d0 := hc2 k hlt
      clear hc2
      rw [hA2]
      clear hA2
      by_cases h1 : k < s.pockets.length
      · have h1I : (k : Int) < s.pockets.length := by omega
        obtain ⟨b, off, hA, hb, hc⟩ := HB.out.1.pockets.pk (by omega)
        obtain ⟨_, _, c2⟩ := hc k h1
        clear hc
        rw [hA] at x6
        clear hA
        have HV : Hid (∀ x y, l.getD k 0 = x → (s.pockets.getD k ((0, 0), 0)).2 = y → (x < 0 ∨ y < x → leadB s l = false) ∧ (0 ≤ x ∧ x ≤ y → ∀ j, j < k + 1 → j < s.pockets.length ∧ 0 ≤ l.getD j 0 ∧ l.getD j 0 ≤ (s.pockets.getD j ((0, 0), 0)).2)) := by
          rintro x y rfl rfl
          refine ⟨fun h => leadB_bad hlt (.inr h), fun h j hj => ?_⟩
          rcases Nat.lt_or_ge j k with hjk | hjk
          · exact hall.out j hjk
          · have : j = k := by omega
            subst this
            exact ⟨h1, h.1, h.2⟩
        have HV := Lib.hid (HV.out _ _ rfl rfl)
        clear hall
        generalize l.getD k 0 = x at *
        generalize (s.pockets.getD k ((0, 0), 0)).2 = y at *
        by_cases h2 : 0 ≤ x
        · by_cases h3 : x ≤ y
          · go_wp2
            go_round
            case rel => exact ⟨k + 1, by omega, by go_num, fun j hj => HV.out.2 ⟨h2, h3⟩ j hj⟩
            case measure => simp [intOf]; omega
          · have h3I : y < x := by omega
            go_wp2
            go_ret
            exact ⟨ret_bool (HV.out.1 (.inr h3I)).symm, rfl⟩
        · have h2I : x < 0 := by omega
          go_wp2
          go_ret
          exact ⟨ret_bool (HV.out.1 (.inl h2I)).symm, rfl⟩
      · have h1I : (s.pockets.length : Int) ≤ k := by omega
        have HV := Lib.hid (leadB_bad hlt (.inl (by omega)) : leadB s l = false)
        clear hall
        go_wp2
        go_ret
        exact ⟨ret_bool HV.out.symm, rfl⟩
    · have : k = l.length := by omega
      subst this
      have HV : Hid (leadB s l = ((l.length : Int) == (s.pockets.length : Int))) := by
        unfold Hid leadB
        rw [Bool.eq_iff_iff]
        simp only [Bool.and_eq_true, decide_eq_true_eq, List.all_eq_true, List.mem_range, beq_iff_eq]
        constructor
        · rintro ⟨h, _⟩
          omega
        · intro h
          exact ⟨by omega, fun i hi => (hall.out i hi).2⟩
      clear hall
      go_wp2
      go_ret
      exact ⟨ret_bool HV.out.symm, rfl⟩

end Go.Proofs.Ythmngnfdfelkeaa
