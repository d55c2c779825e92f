/-
  What is proved: plain laws of trees: what a tree proves, and that an accepted tree proves it.
  What is proved: the contracts of the reference's count and Nodes and of the law's shallow.
-/
import Derived.Test.YthmngnfdfelkeaaTreeTMg
import Derived.Test.YthmngnfdfelkeaaReachPMg
import Derived.Test.YthmngnfdfelkeaaMg24
import Derived.Test.YthmngnfdfelkeaaMg31
namespace Go.Proofs.Ythmngnfdfelkeaa
open Go.RowKit

/-- A box within the box of all leads. -/
def BoxIn (s : Stn) (lo hi : List Int) : Prop := lo.length = 8 ∧ hi.length = 8 ∧ ∀ i, i < 8 → 0 ≤ lo.getD i 0 ∧ lo.getD i 0 ≤ hi.getD i 0 ∧ hi.getD i 0 ≤ (highK s s.pockets.length).getD i 0

theorem high_val {s : Stn} (_h : s.ok = true) {i : Nat} (hi : i < 8) : (highK s s.pockets.length).getD i 0 = if i < s.pockets.length then (s.pockets.getD i ((0, 0), 0)).2 else 0 := by
  simp only [highK, List.getD_eq_getElem?_getD, List.getElem?_map]
  rw [List.getElem?_eq_getElem (by simpa using hi)]
  simp

theorem high_small {s : Stn} (h : s.ok = true) {i : Nat} (hi : i < 8) : 0 ≤ (highK s s.pockets.length).getD i 0 ∧ (highK s s.pockets.length).getD i 0 ≤ 255 := by
  have := (high_ok h).2.2 i hi
  omega

theorem BoxIn.ok {s : Stn} (h : s.ok = true) {lo hi : List Int} (hb : BoxIn s lo hi) : BoxOk lo hi := by
  refine ⟨hb.1, hb.2.1, fun i hi8 => ?_⟩
  have h1 := hb.2.2 i hi8
  have h2 := high_small h hi8
  omega

theorem box_whole {s : Stn} (h : s.ok = true) : BoxIn s lowZ (highK s s.pockets.length) := by
  refine ⟨by simp [lowZ], highK_len _ _, fun i hi => ?_⟩
  have h2 := high_small h hi
  rw [lowZ_get hi]
  omega

theorem getD_set (l : List Int) {i j : Nat} (x : Int) (hi : i < l.length) : (l.set i x).getD j 0 = if i = j then x else l.getD j 0 := by
  rw [List.getD_eq_getElem?_getD, List.getD_eq_getElem?_getD, List.getElem?_set]
  split
  · rename_i h; subst h; simp
  · rfl

theorem BoxIn.up {s : Stn} {lo hi : List Int} (hb : BoxIn s lo hi) {p : Nat} (hp : p < 8) {a : Int} (h1 : lo.getD p 0 ≤ a) (h2 : a < hi.getD p 0) : BoxIn s lo (hi.set p a) := by
  refine ⟨hb.1, by rw [List.length_set]; exact hb.2.1, fun i hi8 => ?_⟩
  have h3 := hb.2.2 i hi8
  rw [getD_set hi a (by have := hb.2.1; omega)]
  split
  · rename_i e; subst e; omega
  · exact h3
theorem BoxIn.down {s : Stn} {lo hi : List Int} (hb : BoxIn s lo hi) {p : Nat} (hp : p < 8) {a : Int} (h1 : lo.getD p 0 ≤ a) (h2 : a < hi.getD p 0) : BoxIn s (lo.set p (a + 1)) hi := by
  refine ⟨by rw [List.length_set]; exact hb.1, hb.2.1, fun i hi8 => ?_⟩
  have h3 := hb.2.2 i hi8
  rw [getD_set lo _ (by have := hb.1; omega)]
  split
  · rename_i e; subst e; omega
  · exact h3

/-- What each kind of node asks. -/
def sumB (sum p a : Int) (way : Int × Int) (nk : Nat) (lo : List Int) : Bool := p == 0 && (a == 0 && ((way.1 == 0 && way.2 == 0) && ((nk : Int) == 0 && decide (sum ≤ sumF lo 8))))
def farT (s : Stn) (p a : Int) (way : Int × Int) (nk : Nat) (lo hi : List Int) : Bool := p == 0 && (a == 0 && ((nk : Int) == 0 && (wayB way && apartB s way lo hi)))
def braB (s : Stn) (p a : Int) (way : Int × Int) (nk : Nat) (lo hi : List Int) : Bool :=
  (way.1 == 0 && way.2 == 0) && ((nk : Int) == 2 && (inB p 0 ((s.pockets.length : Int) - 1) && (decide (lo.getD p.toNat 0 ≤ a) && decide (a < hi.getD p.toNat 0))))
def checkF (s : Stn) (sum : Int) : Nat → Tr → List Int → List Int → Option Nat
  | 0, _, _, _ => none
  | n + 1, .mk k p a way _ _ kids, lo, hi =>
    if k = 1 then (if sumB sum p a way kids.length lo then some 1 else none)
    else if k = 2 then (if farT s p a way kids.length lo hi then some 1 else none)
    else if k = 3 then
      if braB s p a way kids.length lo hi then
        match kids with
        | [x, y] => match checkF s sum n x lo (hi.set p.toNat a) with
          | none => none
          | some m => match checkF s sum n y (lo.set p.toNat (a + 1)) hi with
            | none => none
            | some m' => some (m + m')
        | _ => none
      else none
    else none

theorem check_count (s : Stn) (sum : Int) : ∀ (n : Nat) (t : Tr) (lo hi : List Int) (m : Nat), checkF s sum n t lo hi = some m → 1 ≤ m ∧ m ≤ sizeT t
  | 0, _, _, _, m, h => by simp [checkF] at h
  | n + 1, .mk k p a way A c kids, lo, hi, m, h => by
    simp only [checkF] at h
    split at h
    · split at h
      · simp at h; subst h; simp only [sizeT]; omega
      · cases h
    · split at h
      · split at h
        · simp at h; subst h; simp only [sizeT]; omega
        · cases h
      · split at h
        · split at h
          · split at h
            · rename_i x y _
              split at h
              · cases h
              · rename_i m1 h1
                split at h
                · cases h
                · rename_i m2 h2
                  have i1 := check_count s sum n x _ _ _ h1
                  have i2 := check_count s sum n y _ _ _ h2
                  injection h with h
                  simp only [sizeT, sizeL]
                  omega
            · cases h
          · cases h
        · cases h

theorem bra_iff {s : Stn} (h : s.ok = true) {p a : Int} {way : Int × Int} {nk : Nat} {lo hi : List Int} (hb : braB s p a way nk lo hi = true) :
    way.1 = 0 ∧ way.2 = 0 ∧ nk = 2 ∧ 0 ≤ p ∧ p < s.pockets.length ∧ p.toNat < 8 ∧ lo.getD p.toNat 0 ≤ a ∧ a < hi.getD p.toNat 0 := by
  have h8 := (stn_ok h).2.2.2.2.1
  simp only [braB, Bool.and_eq_true, beq_iff_eq, inB, decide_eq_true_eq] at hb
  obtain ⟨⟨h1, h2⟩, h3, ⟨h4, h5⟩, h6, h7⟩ := hb
  refine ⟨h1, h2, by omega, h4, by omega, by omega, h6, h7⟩

/-- A lead within a box. -/
def LeadIn (s : Stn) (lo hi l : List Int) : Prop := l.length = s.pockets.length ∧ ∀ i, i < s.pockets.length → lo.getD i 0 ≤ l.getD i 0 ∧ l.getD i 0 ≤ hi.getD i 0

theorem mid_mul2 (b k l m : Int) (h0 : k ≤ l) (h1 : l ≤ m) : min (b * k) (b * m) ≤ b * l := by
  rcases Int.le_total 0 b with h | h
  · have e1 := Int.mul_le_mul_of_nonneg_left h0 h
    omega
  · have e1 := Int.mul_le_mul_of_nonpos_left h h1
    omega

theorem reach_box {s : Stn} {l lo hi : List Int} (hl : LeadIn s lo hi l) (way : Int × Int) : ∀ k, k ≤ s.pockets.length → reachLo s way lo hi k ≤ alongV way (withX s l k, withY s l k)
  | 0, _ => by
    simp only [alongV, reachLo, byV, withX, withY, Int.mul_comm]
    omega
  | k + 1, hk => by
    have ih := reach_box hl way k (by omega)
    have hb := hl.2 k (by omega)
    have hm := mid_mul2 (byV (s.pockets.getD k ((0, 0), 0)).1 way) _ _ _ hb.1 hb.2
    rw [along_succ]
    simp only [reachLo]
    omega

/-- No lead of a box that is apart balances. -/
theorem apart_not {s : Stn} (h : s.ok = true) {l lo hi : List Int} (hl : LeadIn s lo hi l) {way : Int × Int} (ha : apartB s way lo hi = true) : stillB s l = false := by
  obtain ⟨_, _, _, _, _, t0, _, _⟩ := stn_ok h
  simp only [apartB, decide_eq_true_eq] at ha
  have hr := reach_box hl way s.pockets.length (Nat.le_refl _)
  rw [Bool.eq_false_iff]
  intro hs
  simp only [stillB, Bool.and_eq_true, inB, decide_eq_true_eq] at hs
  rw [hl.1] at hs
  have := abs_dot (a := way.1) (b := way.2) t0 hs.1 hs.2
  simp only [alongV] at hr
  omega

theorem sumF_mono {a b : List Int} : ∀ n, (∀ i, i < n → a.getD i 0 ≤ b.getD i 0) → sumF a n ≤ sumF b n
  | 0, _ => by simp [sumF]
  | n + 1, h => by
    have ih := sumF_mono n (fun i hi => h i (by omega))
    have := h n (by omega)
    simp only [sumF]
    omega
theorem sumF_congr {a b : List Int} : ∀ n, (∀ i, i < n → a.getD i 0 = b.getD i 0) → sumF a n = sumF b n
  | 0, _ => rfl
  | n + 1, h => by
    simp only [sumF]
    rw [sumF_congr n (fun i hi => h i (by omega)), h n (by omega)]
theorem sumF_zero {a : List Int} {n : Nat} : ∀ k, (∀ i, n ≤ i → i < n + k → a.getD i 0 = 0) → sumF a (n + k) = sumF a n
  | 0, _ => rfl
  | k + 1, h => by
    show sumF a (n + k) + a.getD (n + k) 0 = sumF a n
    rw [sumF_zero k (fun i h1 h2 => h i h1 (by omega)), h (n + k) (by omega) (by omega)]
    omega

theorem BoxIn.zero {s : Stn} (h : s.ok = true) {lo hi : List Int} (hb : BoxIn s lo hi) {i : Nat} (h1 : s.pockets.length ≤ i) (h2 : i < 8) : lo.getD i 0 = 0 ∧ hi.getD i 0 = 0 := by
  have h3 := hb.2.2 i h2
  rw [high_val h h2, if_neg (by omega)] at h3
  omega

theorem BoxIn.sum {s : Stn} (h : s.ok = true) {lo hi : List Int} (hb : BoxIn s lo hi) : sumF lo 8 = sumF lo s.pockets.length := by
  have h8 := (stn_ok h).2.2.2.2.1
  have e : 8 = s.pockets.length + (8 - s.pockets.length) := by omega
  rw [e]
  exact sumF_zero _ (fun i h1 h2 => (hb.zero h h1 (by omega)).1)

/-- An accepted tree: no lead of its box with a lesser sum balances. -/
theorem check_sound {s : Stn} (h : s.ok = true) (sum : Int) : ∀ (n : Nat) (t : Tr) (lo hi : List Int) (m : Nat), BoxIn s lo hi → checkF s sum n t lo hi = some m →
    ∀ l, LeadIn s lo hi l → stillB s l = true → sum ≤ sumL l
  | 0, _, _, _, m, _, hc, _, _, _ => by simp [checkF] at hc
  | n + 1, .mk k p a way A c kids, lo, hi, m, hb, hc, l, hl, hs => by
    simp only [checkF] at hc
    split at hc
    · split at hc
      · rename_i h1
        simp only [sumB, Bool.and_eq_true, decide_eq_true_eq] at h1
        have h2 := h1.2.2.2.2
        rw [hb.sum h] at h2
        have h3 := sumF_mono s.pockets.length (fun i hi => (hl.2 i hi).1)
        unfold sumL
        rw [hl.1]
        omega
      · cases hc
    · split at hc
      · split at hc
        · rename_i h1
          simp only [farT, Bool.and_eq_true] at h1
          rw [apart_not h hl h1.2.2.2.2] at hs
          cases hs
        · cases hc
      · split at hc
        · split at hc
          · rename_i h1
            obtain ⟨_, _, _, p1, p2, p3, p4, p5⟩ := bra_iff h h1
            split at hc
            · rename_i x y _
              split at hc
              · cases hc
              · rename_i m1 h2
                split at hc
                · cases hc
                · rename_i m2 h3
                  by_cases hle : l.getD p.toNat 0 ≤ a
                  · refine check_sound h sum n x _ _ _ (hb.up p3 p4 p5) h2 l ⟨hl.1, fun i hi => ?_⟩ hs
                    have := hl.2 i hi
                    rw [getD_set _ _ (by have := hb.2.1; omega)]
                    split
                    · rename_i e; subst e; omega
                    · exact this
                  · refine check_sound h sum n y _ _ _ (hb.down p3 p4 p5) h3 l ⟨hl.1, fun i hi => ?_⟩ hs
                    have := hl.2 i hi
                    rw [getD_set _ _ (by have := hb.1; omega)]
                    split
                    · rename_i e; subst e; omega
                    · exact this
            · cases hc
          · cases hc
        · cases hc

theorem lead_in {s : Stn} (h : s.ok = true) {l : List Int} (hl : leadP s l) : LeadIn s lowZ (highK s s.pockets.length) l := by
  have h8 := (stn_ok h).2.2.2.2.1
  refine ⟨hl.1, fun i hi => ?_⟩
  have := hl.2 i (by rw [hl.1]; exact hi)
  rw [lowZ_get (by omega), highK_get s (by omega) hi]
  exact this

end Go.Proofs.Ythmngnfdfelkeaa
namespace Go.Proofs.Ythmngnfdfelkeaa
open Go.RowKit
attribute [local go_sem ↓] max_int min_int

def Tr.val (t : Tr) : Value := .agg t.cells.toArray
def Tr.arr (t : Tr) : Array Value := t.cells.toArray

theorem sizeL_take {l : List Tr} {j : Nat} (h : j < l.length) : sizeL (l.take (j + 1)) = sizeL (l.take j) + sizeT l[j] := by
  rw [List.take_add_one, List.getElem?_eq_getElem h, sizeL_app]
  simp [sizeL]
theorem sizeL_le (l : List Tr) (j : Nat) : sizeL (l.take j) ≤ sizeL l := by
  have h := sizeL_app (l.take j) (l.drop j)
  rw [List.take_append_drop] at h
  omega

/-- A kid's six cells. -/
theorem kid_cells {w : World} {q : Nat} {A : Option Addr} {l : List Tr} (h : RowNe w q A (kidCells l)) {j : Nat} (hj : j < l.length) {k p a : Int} {way : Int × Int} {B : Option Addr} {c : Nat} {ks : List Tr} (e : l[j] = .mk k p a way B c ks) :
    ∃ b off, A = some ⟨b, off, none⟩ ∧ b < w.heap.size ∧ w.cell? ⟨b, off + j * 6, none⟩ = some (.int .i64 k) ∧ w.cell? ⟨b, off + j * 6 + 1, none⟩ = some (.int .i64 p) ∧ w.cell? ⟨b, off + j * 6 + 2, none⟩ = some (.int .i64 a) ∧
      w.cell? ⟨b, off + j * 6 + 3, none⟩ = some (.int .i64 way.1) ∧ w.cell? ⟨b, off + j * 6 + 4, none⟩ = some (.int .i64 way.2) ∧ w.cell? ⟨b, off + j * 6 + 5, none⟩ = some (.slice B ks.length c) := by
  obtain ⟨b, off, hA, hb, _, hc⟩ := h.kid (by omega)
  have hc' := hc j hj
  rw [e] at hc'
  refine ⟨b, off, hA, hb, hc' 0 (by omega), ?_, ?_, ?_, ?_, ?_⟩
  · rw [Nat.add_assoc]; exact hc' 1 (by omega)
  · rw [Nat.add_assoc]; exact hc' 2 (by omega)
  · rw [Nat.add_assoc]; exact hc' 3 (by omega)
  · rw [Nat.add_assoc]; exact hc' 4 (by omega)
  · rw [Nat.add_assoc]; exact hc' 5 (by omega)

set_option maxRecDepth 100000 in
set_option maxHeartbeats 4000000 in
theorem ncount_any (q : Nat) : ∀ (n : Nat) (t : Tr), sizeT t ≤ n → ∀ (most : Int) (w : World), TrAt w q t → 0 ≤ most → most ≤ 1000000 →
    Calls Try.prog 106 #[t.val, .int .i64 most] w fun e w' => e = .returned (.int .i64 (min (sizeT t : Int) (most + 1))) ∧ Below w.heap.size w w' := by
  intro n
  induction n with
  | zero => intro t h; have := sizeT_pos t; omega
  | succ n ih =>
    intro t hn most w ht hm0 hm1
    cases ht with
    | @mk k p a way A c kids hr hkl hk _ =>
      obtain ⟨wx, wy⟩ := way
      have hsz : sizeT (.mk k p a (wx, wy) A c kids) = 1 + sizeL kids := by simp only [sizeT]
      rw [hsz] at hn ⊢
      have X : Bk (w.alloc (.cells #[.int .i64 k, .int .i64 p, .int .i64 a, .int .i64 wx, .int .i64 wy, .slice A kids.length c] 49)) w.heap.size 49 #[.int .i64 k, .int .i64 p, .int .i64 a, .int .i64 wx, .int .i64 wy, .slice A kids.length c] := bk_last rfl
      have hB : Below w.heap.size w (w.alloc (.cells #[.int .i64 k, .int .i64 p, .int .i64 a, .int .i64 wx, .int .i64 wy, .slice A kids.length c] 49)) := (Below.refl _ _).alloc (Nat.le_refl _) _
      have HQ := Lib.hid (And.intro hr (And.intro hk hn))
      clear hr hk hn hsz
      show Calls Try.prog 106 #[.agg #[.int .i64 k, .int .i64 p, .int .i64 a, .int .i64 wx, .int .i64 wy, .slice A kids.length c], .int .i64 most] w _
      go_enter Try.func106, Try.ntmps106
      go_upto_region 3 with fail
      generalize w.alloc (.cells _ 49) = U at *
      go_loopw [5, 6] (fun x i wr => ∃ j : Nat, j ≤ kids.length ∧ i = .int .i64 j ∧ x = .int .i64 (min ((1 + sizeL (kids.take j) : Nat) : Int) (most + 1)) ∧ Bk wr w.heap.size 49 #[.int .i64 k, .int .i64 p, .int .i64 a, .int .i64 wx, .int .i64 wy, .slice A kids.length c] ∧ Below w.heap.size w wr) (fun _ i _ => kids.length - (intOf i).toNat)
      case atStart => exact ⟨0, Nat.zero_le _, rfl, by simp [sizeL]; omega, X, hB⟩
      case round =>
        clear X hB
        obtain ⟨j, hj, rfl, rfl, X, hB⟩ := hrel
        have x5 := X.cell 5
        simp at x5
        have hle1 := sizeL_le kids j
        by_cases hlt : j < kids.length
        · have hjI : (j : Int) < kids.length := by omega
          have hst := sizeL_take hlt
          by_cases hle : min ((1 + sizeL (kids.take j) : Nat) : Int) (most + 1) ≤ most
          · obtain ⟨kid, hkid⟩ : ∃ kid, kids[j] = kid := ⟨_, rfl⟩
            have hmem : kid ∈ kids := by rw [← hkid]; exact List.getElem_mem hlt
            have hks : sizeT kid ≤ n := by
              have := sizeL_mem hmem
              have := HQ.out.2.2
              omega
            have hms : min ((1 + sizeL (kids.take j) : Nat) : Int) (most + 1) = ((1 + sizeL (kids.take j) : Nat) : Int) := by omega
            have hkt := HQ.out.2.1 kid hmem
            have HI := Lib.hid (ih kid hks (most - ((1 + sizeL (kids.take j) : Nat) : Int)) wr (hkt.keep (hB.mono (Nat.le_refl _))) (by omega) (by omega))
            have HN : Hid (min ((1 + sizeL (kids.take (j + 1)) : Nat) : Int) (most + 1) = ((1 + sizeL (kids.take j) : Nat) : Int) + min (sizeT kid : Int) (most - ((1 + sizeL (kids.take j) : Nat) : Int) + 1)) := by
              rw [hst, hkid]
              simp only [Hid]
              omega
            obtain ⟨kk, kp, ka, kw, kA, kc, kks⟩ := kid
            obtain ⟨b, off, hA, hb, d0, d1, d2, d3, d4, d5⟩ := kid_cells HQ.out.1 hlt hkid
            replace d0 := keepc hB d0
            replace d1 := keepc hB d1
            replace d2 := keepc hB d2
            replace d3 := keepc hB d3
            replace d4 := keepc hB d4
            replace d5 := keepc hB d5
            rw [hms] at hle ⊢
            have hsp : 1 ≤ sizeT (.mk kk kp ka kw kA kc kks) := sizeT_pos _
            have hrs : min (sizeT (.mk kk kp ka kw kA kc kks) : Int) (most - ((1 + sizeL (kids.take j) : Nat) : Int) + 1) ≤ 1000001 := by omega
            have hrs0 : 0 ≤ min (sizeT (.mk kk kp ka kw kA kc kks) : Int) (most - ((1 + sizeL (kids.take j) : Nat) : Int) + 1) := by omega
            replace HI : Hid (Calls Try.prog 106 #[.agg #[.int .i64 kk, .int .i64 kp, .int .i64 ka, .int .i64 kw.1, .int .i64 kw.2, .slice kA kks.length kc], .int .i64 (most - ((1 + sizeL (kids.take j) : Nat) : Int))] wr fun e w' => e = .returned (.int .i64 (min (sizeT (.mk kk kp ka kw kA kc kks) : Int) (most - ((1 + sizeL (kids.take j) : Nat) : Int) + 1))) ∧ Below wr.heap.size wr w') := HI
            generalize min (sizeT (.mk kk kp ka kw kA kc kks) : Int) (most - ((1 + sizeL (kids.take j) : Nat) : Int) + 1) = r at *
            have hS : ((1 + sizeL (kids.take j) : Nat) : Int) ≤ 1000000 := by omega
            have hS0 : 0 ≤ ((1 + sizeL (kids.take j) : Nat) : Int) := by omega
            have hkl2 : (kids.length : Int) ≤ 9223372036854775807 := by omega
            have HXX := Lib.hid (And.intro X hB)
            have hbw : b < wr.heap.size := by have := hB.size; omega
            have hxl := X.lt
            subst hA
            clear hms hst hkt hks hmem hkid hsp hle1 X hB
            generalize ((1 + sizeL (kids.take j) : Nat) : Int) = S at *
            go_wp2_with (go_at_call 106; refine (HI.out).mono ?_; rintro e w2 ⟨rfl, hb2⟩)
            go_roundw
            case rel => exact ⟨j + 1, by omega, by go_num, by rw [HN.out], HXX.out.1.keep hb2, HXX.out.2.trans (hb2.mono HXX.out.2.size)⟩
            case measure => simp [intOf]; omega
          · have hfin : min ((1 + sizeL (kids.take j) : Nat) : Int) (most + 1) = min ((1 + sizeL kids : Nat) : Int) (most + 1) := by omega
            rw [hfin] at hle ⊢
            have hkl2 : (kids.length : Int) ≤ 9223372036854775807 := by omega
            clear hfin hst hle1
            generalize hr : min ((1 + sizeL kids : Nat) : Int) (most + 1) = r at *
            have HF : Hid (min (1 + (sizeL kids : Int)) (most + 1) = r) := by
              have e : ((1 + sizeL kids : Nat) : Int) = 1 + (sizeL kids : Int) := by omega
              rw [← e]; exact hr
            have HF2 := Lib.hid hr
            clear hr
            go_wp2_with fail
            go_ret
            exact ⟨by first | rfl | (rw [HF.out]; rfl) | (rw [HF2.out]; rfl), hB⟩
        · obtain rfl : j = kids.length := by omega
          rw [List.take_length]
          clear hle1
          generalize hr : min ((1 + sizeL kids : Nat) : Int) (most + 1) = r at *
          have HF : Hid (min (1 + (sizeL kids : Int)) (most + 1) = r) := by
            have e : ((1 + sizeL kids : Nat) : Int) = 1 + (sizeL kids : Int) := by omega
            rw [← e]; exact hr
          have HF2 := Lib.hid hr
          clear hr
          go_wp2_with fail
          go_ret
          exact ⟨by first | rfl | (rw [HF.out]; rfl) | (rw [HF2.out]; rfl), hB⟩

set_option maxHeartbeats 1000000 in
theorem rnodes_any (q : Nat) (t : Tr) (w : World) (ht : TrAt w q t) :
    Calls Try.prog 59 #[t.val] w fun e w' => e = .returned (.int .i64 (min (sizeT t : Int) 200001)) ∧ Below w.heap.size w w' := by
  have HC := Lib.hid (fun (W : World) (h : Below w.heap.size w W) => ncount_any q _ t (Nat.le_refl _) 200000 W (ht.keep h) (by omega) (by omega))
  obtain ⟨k, p, a, ⟨wx, wy⟩, A, c, kids⟩ := t
  have hB : Below w.heap.size w (w.alloc (.cells #[.int .i64 k, .int .i64 p, .int .i64 a, .int .i64 wx, .int .i64 wy, .slice A kids.length c] 49)) := (Below.refl _ _).alloc (Nat.le_refl _) _
  have HD := Lib.hid (HC.out _ hB)
  have hmm : Hid (min (min (sizeT (.mk k p a (wx, wy) A c kids) : Int) (200000 + 1)) 200001 = min (sizeT (.mk k p a (wx, wy) A c kids) : Int) 200001) := by simp only [Hid]; omega
  replace HD : Hid (Calls Try.prog 106 #[.agg #[.int .i64 k, .int .i64 p, .int .i64 a, .int .i64 wx, .int .i64 wy, .slice A kids.length c], .int .i64 200000] (w.alloc (.cells #[.int .i64 k, .int .i64 p, .int .i64 a, .int .i64 wx, .int .i64 wy, .slice A kids.length c] 49)) fun e w' => e = .returned (.int .i64 (min (sizeT (.mk k p a (wx, wy) A c kids) : Int) (200000 + 1))) ∧ Below (w.alloc (.cells #[.int .i64 k, .int .i64 p, .int .i64 a, .int .i64 wx, .int .i64 wy, .slice A kids.length c] 49)).heap.size (w.alloc (.cells #[.int .i64 k, .int .i64 p, .int .i64 a, .int .i64 wx, .int .i64 wy, .slice A kids.length c] 49)) w') := HD
  clear HC
  generalize (sizeT (.mk k p a (wx, wy) A c kids) : Int) = S at *
  generalize min S (200000 + 1) = r at *
  show Calls Try.prog 59 #[.agg #[.int .i64 k, .int .i64 p, .int .i64 a, .int .i64 wx, .int .i64 wy, .slice A kids.length c]] w _
  go_enter Try.func59, Try.ntmps59
  go_wp2_with fail
  refine (HD.out).mono ?_
  rintro e w2 ⟨rfl, hb2⟩
  go_wp2_with fail
  go_ret
  exact ⟨by rw [← hmm.out]; rfl, hB.trans (hb2.mono hB.size)⟩

set_option maxHeartbeats 1000000 in
theorem shallow_any (q : Nat) (t : Tr) (w : World) (ht : TrAt w q t) :
    Calls Try.prog 52 #[t.val] w fun e w' => e = .returned (.bool (decide (sizeT t ≤ 5000))) ∧ Below w.heap.size w w' := by
  have HC := Lib.hid (fun (W : World) (h : Below w.heap.size w W) => rnodes_any q t W (ht.keep h))
  obtain ⟨k, p, a, ⟨wx, wy⟩, A, c, kids⟩ := t
  have hB : Below w.heap.size w (w.alloc (.cells #[.int .i64 k, .int .i64 p, .int .i64 a, .int .i64 wx, .int .i64 wy, .slice A kids.length c] 49)) := (Below.refl _ _).alloc (Nat.le_refl _) _
  have HD := Lib.hid (HC.out _ hB)
  have hmm : Hid (decide (min (sizeT (.mk k p a (wx, wy) A c kids) : Int) 200001 ≤ 5000) = decide (sizeT (.mk k p a (wx, wy) A c kids) ≤ 5000)) := by
    simp only [Hid]
    exact decide_eq_decide.2 (by omega)
  replace HD : Hid (Calls Try.prog 59 #[.agg #[.int .i64 k, .int .i64 p, .int .i64 a, .int .i64 wx, .int .i64 wy, .slice A kids.length c]] (w.alloc (.cells #[.int .i64 k, .int .i64 p, .int .i64 a, .int .i64 wx, .int .i64 wy, .slice A kids.length c] 49)) fun e w' => e = .returned (.int .i64 (min (sizeT (.mk k p a (wx, wy) A c kids) : Int) 200001)) ∧ Below (w.alloc (.cells #[.int .i64 k, .int .i64 p, .int .i64 a, .int .i64 wx, .int .i64 wy, .slice A kids.length c] 49)).heap.size (w.alloc (.cells #[.int .i64 k, .int .i64 p, .int .i64 a, .int .i64 wx, .int .i64 wy, .slice A kids.length c] 49)) w') := HD
  clear HC
  rw [← hmm.out]
  clear hmm
  generalize min (sizeT (.mk k p a (wx, wy) A c kids) : Int) 200001 = r at *
  show Calls Try.prog 52 #[.agg #[.int .i64 k, .int .i64 p, .int .i64 a, .int .i64 wx, .int .i64 wy, .slice A kids.length c]] w _
  go_enter Try.func52, Try.ntmps52
  go_wp2_with fail
  refine (HD.out).mono ?_
  rintro e w2 ⟨rfl, hb2⟩
  go_wp2_with fail
  go_ret
  exact ⟨by rfl, hB.trans (hb2.mono hB.size)⟩

end Go.Proofs.Ythmngnfdfelkeaa
