/-
  What is proved: the contract of Dress.
-/
import Derived.Test.YtkikjmkpndmdcaaDressC
import Derived.Deep.RegionHeld3
import Derived.Deep.DeepCutAuto
namespace Go.Proofs.Ytkikjmkpndmdcaa
open Go.RowKit

theorem keepa {W : World} {b o : Nat} {v : Value} {x : Obj} (h : W.cell? ⟨b, o, none⟩ = some v) : (W.alloc x).cell? ⟨b, o, none⟩ = some v :=
  keepc ((Below.refl _ _).alloc (Nat.le_refl _) _) h
theorem keepad {W : World} {b o : Nat} {v : Value} {x : Obj} (h : W.cell? ⟨b, o, none⟩ = some v) : (W.alloc x).drew.cell? ⟨b, o, none⟩ = some v := keepa h
theorem far1 {w : World} {b o : Nat} {v : Value} {p : Addr} (h : w.cell? ⟨b, o, none⟩ = some v) (hne : b ≠ p.block) (u : Value) : (w.setCell p u).cell? ⟨b, o, none⟩ = some v :=
  (World.cell?_of_block (a := ⟨b, o, none⟩) (Below.heap_setCell w p u b hne)).trans h
theorem far4 {w : World} {b o b' c0 c1 c2 c3 : Nat} {v u0 u1 u2 u3 : Value} (h : w.cell? ⟨b, o, none⟩ = some v) (hne : b ≠ b') : ((((w.setCell ⟨b', c0, none⟩ u0).setCell ⟨b', c1, none⟩ u1).setCell ⟨b', c2, none⟩ u2).setCell ⟨b', c3, none⟩ u3).cell? ⟨b, o, none⟩ = some v :=
  far1 (far1 (far1 (far1 h hne _) hne _) hne _) hne _
theorem make_ints (M : Nat) (hM : M ≤ 256) (X : World) : ∃ X', (Instr.makeSlice 28 (.int .i64 M) (.int .i64 M)).run Try.prog X = .ok (.slice (some ⟨X.heap.size, 0, none⟩) M M) X' ∧ Bk X' X.heap.size 3 (intCells (List.replicate M 0)).toArray ∧ Below X.heap.size X X' := by
  obtain ⟨k0, hk0, kz0, kz1, kz2⟩ := info_parts intInfo
  obtain ⟨X', hr, ho, hg⟩ := run_make_full (P := Try.prog) X X.heap.size 28 3 k0 _ 1 Try.underlying28 hk0 kz0 kz1 .i64 .i64 M (by rw [kz2]; omega) (by unfold maxLen; omega) (Nat.le_refl _)
  rw [made_ints] at ho
  exact ⟨X', hr, own_full ho, ⟨hg.os, hg.tape, hg.output, hg.size, fun k hk => hg.block k hk (by simp)⟩⟩

/-- The kinds after the first h harps of a ring, after j rings, after k furrows. -/
def harpK (R S V : Nat) (x : Fur) (ring : Nat) (K : List Int) : Nat → List Int
  | 0 => K
  | h + 1 => cutK S ring (furBase R x ring ((h * V : Nat) : Int)) x.steep (harpK R S V x ring K h) (furLen x)
def ringK (R S V H : Nat) (x : Fur) (K : List Int) : Nat → List Int
  | 0 => K
  | j + 1 => harpK R S V x (x.from_.toNat + j) (ringK R S V H x K j) H
def furK (R S V H : Nat) (l : List Fur) (K : List Int) : Nat → List Int
  | 0 => K
  | k + 1 => ringK R S V H (l.getD k fur0) (furK R S V H l K k) (R - (l.getD k fur0).from_.toNat)
theorem harpK_len (R S V : Nat) (x : Fur) (ring : Nat) (K : List Int) : ∀ h, (harpK R S V x ring K h).length = K.length
  | 0 => rfl
  | h + 1 => by rw [harpK, cutK_len, harpK_len R S V x ring K h]
theorem ringK_len (R S V H : Nat) (x : Fur) (K : List Int) : ∀ j, (ringK R S V H x K j).length = K.length
  | 0 => rfl
  | j + 1 => by rw [ringK, harpK_len, ringK_len R S V H x K j]
theorem furK_len (R S V H : Nat) (l : List Fur) (K : List Int) : ∀ k, (furK R S V H l K k).length = K.length
  | 0 => rfl
  | k + 1 => by rw [furK, ringK_len, furK_len R S V H l K k]

structure DressIn (R H V : Nat) (furs : List Fur) : Prop where
  r0 : 1 ≤ R
  r1 : R ≤ 4
  h0 : 1 ≤ H
  v0 : 1 ≤ V
  s0 : 2 ≤ H * V
  s1 : H * V ≤ 8
  fl : furs.length ≤ 16
  fg : ∀ x ∈ furs, FurIn x V R

def DressP (eye : Int) (R H V : Nat) (furs : List Fur) (w : World) (e : Ending) (w' : World) : Prop :=
  Below w.heap.size w w' ∧ ∃ g, e = .returned (.tuple #[.agg #[.int .i64 eye, .int .i64 R, .int .i64 (H * V : Nat), .slice (some ⟨g, 0, none⟩) (R * (H * V)) (R * (H * V))], .int .i64 0]) ∧ Bk w' g 3 (intCells (furK R (H * V) V H furs (List.replicate (R * (H * V)) 0) furs.length)).toArray

set_option maxRecDepth 100000 in
set_option maxHeartbeats 8000000 in
theorem dress_good (eye : Int) (R H V : Nat) (furs : List Fur) (A : Option Addr) (c : Nat) (w : World) (hok : (Pat.mk eye R H V furs).ok = true) (hin : DressIn R H V furs) (hL : RowAt w A (furCells furs)) :
    Calls Try.prog 6 #[.agg #[.int .i64 eye, .int .i64 R, .int .i64 H, .int .i64 V, .slice A furs.length c]] w (DressP eye R H V furs w) := by
  obtain ⟨r0, r1, h0, v0, s0, s1, fl, fg⟩ := hin
  have hRS : R * (H * V) ≤ 4 * 8 := Nat.mul_le_mul r1 s1
  have hHb : H ≤ 8 := by
    have : H * 1 ≤ H * V := Nat.mul_le_mul_left H v0
    omega
  have hVb : V ≤ 8 := by
    have : 1 * V ≤ H * V := Nat.mul_le_mul_right V h0
    omega
  unfold DressP
  obtain ⟨S, hS⟩ : ∃ S, H * V = S := ⟨_, rfl⟩
  obtain ⟨Q, hQ⟩ : ∃ Q, R * H = Q := ⟨_, rfl⟩
  obtain ⟨M, hM⟩ : ∃ M, R * (H * V) = M := ⟨_, rfl⟩
  have hcs : (H : Int) * V = (S : Int) := by rw [← hS]; simp
  have hcq : (R : Int) * H = (Q : Int) := by rw [← hQ]; simp
  have hcm : (Q : Int) * V = (M : Int) := by rw [← hM, ← hQ, ← Nat.mul_assoc]; simp
  have hQb : Q ≤ 32 := by rw [← hQ]; exact Nat.mul_le_mul r1 hHb
  have hMS : Hid (R * S = M) := by rw [Hid, ← hS]; exact hM
  rw [hM, hS]
  rw [hM] at hRS
  rw [hS] at s0 s1
  have hws := IntWalk.i64_in (S : Int) (by omega)
  have hwq := IntWalk.i64_in (Q : Int) (by omega)
  have hwm := IntWalk.i64_in (M : Int) (by omega)
  have HV := Lib.hid (fun (X : World) (h : Below w.heap.size w X) => validPat_any ⟨eye, R, H, V, furs⟩ A c X (hL.below h) (by simp only; omega))
  rw [hok] at HV
  unfold Pat.arr at HV
  simp only at HV
  have HL := Lib.hid hL
  have HFG := Lib.hid fg
  obtain ⟨W, hW⟩ : ∃ W, (w.alloc (.cells #[.int .i64 eye, .int .i64 R, .int .i64 H, .int .i64 V, .slice A furs.length c] 24)).alloc (.cells #[.int .i64 0, .int .i64 0, .int .i64 0, .slice none 0 0] 30) = W := ⟨_, rfl⟩
  have hbW : Below w.heap.size w W := by rw [← hW]; exact ((Below.refl _ _).alloc (Nat.le_refl _) _).alloc (by simp) _
  have X := (show Bk W w.heap.size 24 #[.int .i64 eye, .int .i64 R, .int .i64 H, .int .i64 V, .slice A furs.length c] by rw [← hW]; exact (bk_last rfl).alloc _)
  have Y := (show Bk W (w.heap.size + 1) 30 #[.int .i64 0, .int .i64 0, .int .i64 0, .slice none 0 0] by rw [← hW]; exact bk_last (by simp))
  have x0 := X.cell 0
  have x1 := X.cell 1
  have x2 := X.cell 2
  have x3 := X.cell 3
  have x4 := X.cell 4
  simp at x0 x1 x2 x3 x4
  have HW := Lib.hid hW
  clear hW hL fg hok hQ hM hS
  go_enter Try.func6, Try.ntmps6
  go_upto_region 1 with fail
  rw [HW.out]
  clear HW
  go_upto_region 3 with (go_at_call 16; refine (HV.out W hbW).mono ?_; rintro e w1 ⟨rfl, hb1⟩)
  replace X := X.keep hb1
  replace Y := Y.keep hb1
  have hB1 := hbW.trans (hb1.mono hbW.size)
  clear x0 x1 x2 x3 x4 hb1 hbW HV
  go_cut [4] from 13 to 31 (fun v4 wx => ∃ b4 g : Nat, v4 = .pointer (some ⟨b4, 0, none⟩) ∧ w.heap.size + 1 < b4 ∧ w.heap.size + 1 < g ∧ Below w.heap.size w wx ∧ Bk wx w.heap.size 24 #[.int .i64 eye, .int .i64 R, .int .i64 H, .int .i64 V, .slice A furs.length c] ∧ Bk wx (w.heap.size + 1) 30 #[.int .i64 0, .int .i64 0, .int .i64 0, .slice none 0 0] ∧
    Bk wx b4 30 #[.int .i64 eye, .int .i64 R, .int .i64 S, .slice (some ⟨g, 0, none⟩) M M] ∧ Bk wx g 3 (intCells (List.replicate M 0)).toArray)
  case first =>
    have x0 := X.cell 0
    have x1 := X.cell 1
    have x2 := X.cell 2
    have x3 := X.cell 3
    simp at x0 x1 x2 x3
    have e0 : w1.drew.cell? ⟨w.heap.size, 0, none⟩ = some (.int .i64 eye) := x0
    have e1 : w1.drew.cell? ⟨w.heap.size, 1, none⟩ = some (.int .i64 R) := x1
    have e2 : w1.drew.cell? ⟨w.heap.size, 2, none⟩ = some (.int .i64 H) := x2
    have e3 : w1.drew.cell? ⟨w.heap.size, 3, none⟩ = some (.int .i64 V) := x3
    have HMK := Lib.hid (make_ints M (by omega))
    have HALL := Lib.hid (And.intro hB1 (And.intro X Y))
    have hl1 := X.lt
    have hne1 : w.heap.size ≠ w1.heap.size := by omega
    clear hB1 X Y
    go_region_held3 (fun w' => w'.cell? ⟨w.heap.size, 0, none⟩ = some (.int .i64 eye) ∧ w'.cell? ⟨w.heap.size, 1, none⟩ = some (.int .i64 R) ∧ w'.cell? ⟨w.heap.size, 2, none⟩ = some (.int .i64 H) ∧ w'.cell? ⟨w.heap.size, 3, none⟩ = some (.int .i64 V))
      (first | with_reducible exact ⟨e0, e1, e2, e3⟩ | with_reducible exact ⟨keepad x0, keepad x1, keepad x2, keepad x3⟩ | with_reducible exact ⟨keepc hbm e0, keepc hbm e1, keepc hbm e2, keepc hbm e3⟩ | with_reducible exact ⟨keepc hbm (keepad x0), keepc hbm (keepad x1), keepc hbm (keepad x2), keepc hbm (keepad x3)⟩ | with_reducible exact ⟨keepa (keepc hbm e0), keepa (keepc hbm e1), keepa (keepc hbm e2), keepa (keepc hbm e3)⟩ | with_reducible exact ⟨far4 (keepc hbm (keepad x0)) hne1, far4 (keepc hbm (keepad x1)) hne1, far4 (keepc hbm (keepad x2)) hne1, far4 (keepc hbm (keepad x3)) hne1⟩)
      (first | (obtain ⟨wm, hr, RO, hbm⟩ := HMK.out _; rw [hr]; clear hr; have hE : Bk wm w1.heap.size 30 #[.int .i64 0, .int .i64 0, .int .i64 0, .slice none 0 0] := Bk.keep (Bk.drew (bk_last rfl)) hbm; have f0 := hE.cell 0; have f1 := hE.cell 1; have f2 := hE.cell 2; have f3 := hE.cell 3; have k0 := hE.fz 0; have k1 := hE.fz 1; have k2 := hE.fz 2; have k3 := hE.fz 3; have kl := hE.lt; simp at f0 f1 f2 f3) | (obtain ⟨wm, hr, RO, hbm⟩ := HMK.out _; rw [hr]; clear hr))
    · go_wp2_with fail
      go_meet
      case rel =>
        obtain ⟨hB, X, Y⟩ := HALL.out
        have hly := Y.lt
        have hz := hbm.size
        have hz2 : w1.heap.size ≤ wm.heap.size := hz
        have hbm' : Below w1.heap.size w1 wm := (show Below w1.heap.size w1 w1.drew from ⟨rfl, rfl, rfl, Nat.le_refl _, fun _ _ => rfl⟩).trans hbm
        have RO' : Bk wm w1.heap.size 3 _ := RO
        have hBm := hB.trans (hbm'.mono hB.size)
        exact ⟨_, _, rfl, by omega, by omega, hBm.alloc hBm.size _, (X.keep hbm').alloc _, (Y.keep hbm').alloc _, bk_last rfl, RO'.alloc _⟩
    · go_wp2_with fail
      go_meet
      case rel =>
        obtain ⟨hB, X, Y⟩ := HALL.out
        have hly := Y.lt
        have hba : Below w1.heap.size w1 (w1.alloc (.cells #[.int .i64 0, .int .i64 0, .int .i64 0, .slice none 0 0] 30)).drew := ((Below.refl _ _).alloc (Nat.le_refl _) _).drew
        have hbm' : Below w1.heap.size w1 wm := hba.trans (hbm.mono (by simp))
        have RO' : Bk wm (w1.heap.size + 1) 3 (intCells (List.replicate M 0)).toArray := by
          have := RO
          simpa using this
        have hBm := hB.trans (hbm'.mono hB.size)
        have hw1 := hB.size
        refine ⟨w1.heap.size, w1.heap.size + 1, rfl, by omega, by omega, (((hBm.setCell (by simp only; omega) _).setCell (by simp only; omega) _).setCell (by simp only; omega) _).setCell (by simp only; omega) _, ?_, ?_, ?_, ?_⟩
        · exact ((((X.keep hbm').far (by simp only [ne_eq]; omega) _).far (by simp only [ne_eq]; omega) _).far (by simp only [ne_eq]; omega) _).far (by simp only [ne_eq]; omega) _
        · exact ((((Y.keep hbm').far (by simp only [ne_eq]; omega) _).far (by simp only [ne_eq]; omega) _).far (by simp only [ne_eq]; omega) _).far (by simp only [ne_eq]; omega) _
        · have := (((hE.put 0 (.int .i64 eye)).put 1 (.int .i64 R)).put 2 (.int .i64 S)).put 3 (.slice (some ⟨w1.heap.size + 1, 0, none⟩) M M)
          simpa using this
        · exact (((RO'.far (by simp only [ne_eq]; omega) _).far (by simp only [ne_eq]; omega) _).far (by simp only [ne_eq]; omega) _).far (by simp only [ne_eq]; omega) _
  case rest =>
    clear X Y hB1
    obtain ⟨b4, g, rfl, hb4, hg, hB, X, Y, Fc, G⟩ := hcut
    have hgb : g ≠ b4 := fun e => by subst e; exact Fc.ne G (by decide) rfl
    have x4 := X.cell 4
    simp at x4
    obtain ⟨K0, hK0⟩ : ∃ K0, K0 = List.replicate M (0 : Int) := ⟨_, rfl⟩
    have HK0 := Lib.hid hK0
    have hK0l : K0.length = R * S := by rw [hK0, List.length_replicate]; exact hMS.out.symm
    have HKL := Lib.hid hK0l
    rw [← hK0] at G
    clear hK0 hK0l
    have hBw := hB.size
    go_upto_region 5 with fail
    clear x4
    have hgr0 := World.grownBy_refl wc (some g)
    obtain ⟨wo, hwo⟩ : ∃ wo, wc = wo := ⟨_, rfl⟩
    have HB := Lib.hid (And.intro hB (And.intro X (And.intro Y Fc)))
    have hbl : b4 < wc.heap.size := Fc.lt
    have hgl : g < wc.heap.size := G.lt
    clear X Y Fc hB hwo
    go_loopw [35] (fun ix wr => ∃ k : Nat, k ≤ furs.length ∧ ix = .int .i64 k ∧ wc.grownBy wr (some g) ∧ Bk wr g 3 (intCells (furK R S V H furs K0 k)).toArray) (fun ix _ => furs.length - (intOf ix).toNat)
    case atStart => exact ⟨0, Nat.zero_le _, rfl, hgr0, G⟩
    case round =>
      clear G hgr0
      obtain ⟨k, hk, rfl, hgr, G⟩ := hrel
      have hBr : Below w.heap.size w wr := HB.out.1.grown hgr hBw (fun r e => by injection e with e; omega)
      by_cases hlt : k < furs.length
      · have hkI : (k : Int) < furs.length := by omega
        obtain ⟨b5, o5, hA, hb5, hc5⟩ := fur_row (HL.out.below hBr) (by omega)
        obtain ⟨c0, c1, c2, c3, c4, c5⟩ := hc5 k hlt
        have hx := HFG.out _ (getD_mem fur0 hlt)
        have HFK : Hid (furK R S V H furs K0 (k + 1) = ringK R S V H (furs.getD k fur0) (furK R S V H furs K0 k) (R - (furs.getD k fur0).from_.toNat)) := rfl
        have hfl1 := furK_len R S V H furs K0 k
        rw [HKL.out] at hfl1
        have HFL := Lib.hid hfl1
        rw [hA]
        clear hA hc5 hfl1
        generalize furK R S V H furs K0 k = Kk at *
        generalize furs.getD k fur0 = x at *
        have HX := Lib.hid hx
        obtain ⟨fr, hfr⟩ : ∃ fr : Nat, x.from_.toNat = fr := ⟨_, rfl⟩
        have hfrI : x.from_ = (fr : Int) := by have := hx.f0; omega
        have hfrR : fr < R := by have := hx.f1; omega
        rw [hfr] at HFK
        rw [hfrI] at c1
        have HFR := Lib.hid (And.intro hfr hfrI)
        clear hfr hx hfrI
        obtain ⟨W5, hW5⟩ : ∃ W5, wr.alloc (.cells #[.int .i64 x.at_, .int .i64 fr, .int .i64 x.lean, .int .i64 x.leans, .int .i64 x.steep, .int .i64 x.feather] 63) = W5 := ⟨_, rfl⟩
        have hb5' : Below wr.heap.size wr W5 := by rw [← hW5]; exact (Below.refl _ _).alloc (Nat.le_refl _) _
        have Q6 : Bk W5 wr.heap.size 63 #[.int .i64 x.at_, .int .i64 fr, .int .i64 x.lean, .int .i64 x.leans, .int .i64 x.steep, .int .i64 x.feather] := by rw [← hW5]; exact bk_last rfl
        have hgr5 : wc.grownBy W5 (some g) := hgr.trans ⟨hb5'.os, hb5'.tape, hb5'.output, hb5'.size, fun j hj _ => hb5'.block j hj⟩
        have G5 := G.keep hb5'
        have hwrz : wc.heap.size ≤ wr.heap.size := hgr.size
        have q1 := Q6.cell 1
        simp at q1
        have HW5 := Lib.hid hW5
        have HQ6 := Lib.hid Q6
        clear hW5 hb5' G hgr Q6
        go_upto_region 7 with fail
        rw [HW5.out]
        clear HW5 c0 c1 c2 c3 c4 c5
        obtain ⟨q6, hq6⟩ : ∃ q6, wr.heap.size = q6 := ⟨_, rfl⟩
        rw [hq6] at q1 HQ6 hwrz
        rw [hq6]
        clear hq6 hBr
        go_wp2_with fail
        clear q1
        have HRK0 : Hid (Kk = ringK R S V H x Kk 0) := rfl
        have hG5 := G5
        rw [HRK0.out] at hG5
        have Q6' := HQ6.out
        have hq6l := Q6'.lt
        clear G5
        go_loopw [7] (fun ix wr2 => ∃ j : Nat, fr + j ≤ R ∧ ix = .int .i64 (fr + j : Nat) ∧ wc.grownBy wr2 (some g) ∧ Bk wr2 q6 63 #[.int .i64 x.at_, .int .i64 fr, .int .i64 x.lean, .int .i64 x.leans, .int .i64 x.steep, .int .i64 x.feather] ∧ Bk wr2 g 3 (intCells (ringK R S V H x Kk j)).toArray) (fun ix _ => R - (intOf ix).toNat)
        case atStart => exact ⟨0, by omega, rfl, hgr5, Q6', hG5⟩
        case round =>
          clear hG5 Q6' hgr5 hq6l
          obtain ⟨j, hj, rfl, hgr2, Q2, G2⟩ := hrel
          obtain ⟨hB, X, Y, Fc⟩ := HB.out
          have X2 := X.grown hgr2 (by simp; omega)
          have x1 := X2.cell 1
          simp at x1
          clear hB X Y Fc
          by_cases hjl : fr + j < R
          · have hjI : ((fr + j : Nat) : Int) < R := by omega
            have x2 := X2.cell 2
            simp at x2
            obtain ⟨ring, hring⟩ : ∃ ring, fr + j = ring := ⟨_, rfl⟩
            have HRG := Lib.hid hring
            rw [hring] at hjI hjl
            rw [hring]
            have HRK : Hid (ringK R S V H x Kk (j + 1) = harpK R S V x ring (ringK R S V H x Kk j) H) := by
              show harpK R S V x (x.from_.toNat + j) (ringK R S V H x Kk j) H = _
              rw [HFR.out.1, hring]
            have hfl2 := ringK_len R S V H x Kk j
            rw [HFL.out] at hfl2
            have HFL2 := Lib.hid hfl2
            clear hring hfl2
            generalize ringK R S V H x Kk j = Kj at *
            have HHK0 : Hid (Kj = harpK R S V x ring Kj 0) := rfl
            have hG2 := G2
            rw [HHK0.out] at hG2
            clear G2 X2
            go_wp2_with fail
            clear x1 x2
            go_loopw [49] (fun ix wr3 => ∃ h : Nat, h ≤ H ∧ ix = .int .i64 h ∧ wc.grownBy wr3 (some g) ∧ Bk wr3 q6 63 #[.int .i64 x.at_, .int .i64 fr, .int .i64 x.lean, .int .i64 x.leans, .int .i64 x.steep, .int .i64 x.feather] ∧ Bk wr3 g 3 (intCells (harpK R S V x ring Kj h)).toArray) (fun ix _ => H - (intOf ix).toNat)
            case atStart => exact ⟨0, by omega, rfl, hgr2, Q2, hG2⟩
            case round =>
              clear hG2 Q2 hgr2
              obtain ⟨h, hh, rfl, hgr3, Q3, G3⟩ := hrel
              by_cases hhl : h < H
              · have hhI : (h : Int) < H := by omega
                obtain ⟨hB, X, Y, Fc⟩ := HB.out
                have X3 := X.grown hgr3 (by simp; omega)
                have F3 := Fc.grown hgr3 (by simp; omega)
                clear hB X Y Fc
                have hhV : h * V ≤ 64 := Nat.mul_le_mul (show h ≤ 8 by omega) hVb
                have hcast : (h : Int) * V = ((h * V : Nat) : Int) := by simp
                have hwh := IntWalk.i64_in (((h * V : Nat) : Int)) (by omega)
                have hlen := harpK_len R S V x ring Kj h
                rw [HFL2.out] at hlen
                have hx := HX.out
                have HC := Lib.hid (fun (X : World) (hG : Bk X g 3 (intCells (harpK R S V x ring Kj h)).toArray) => cut_any eye R S g M ring x ((h * V : Nat) : Int) V (harpK R S V x ring Kj h) X hx (by omega) ⟨r0, r1⟩ ⟨s0, s1⟩ hjl (by omega) hlen hG)
                rw [hMS.out] at HC
                unfold Fur.val at HC
                rw [HFR.out.2] at HC
                have HHK : Hid (harpK R S V x ring Kj (h + 1) = cutK S ring (furBase R x ring ((h * V : Nat) : Int)) x.steep (harpK R S V x ring Kj h) (furLen x)) := rfl
                have x3 := X3.cell 3
                have f0 := F3.cell 0
                have f1 := F3.cell 1
                have f2 := F3.cell 2
                have f3 := F3.cell 3
                have q0 := Q3.cell 0
                have q1 := Q3.cell 1
                have q2 := Q3.cell 2
                have q3 := Q3.cell 3
                have q4 := Q3.cell 4
                have q5 := Q3.cell 5
                simp at x3 f0 f1 f2 f3 q0 q1 q2 q3 q4 q5
                have HQ3 := Lib.hid (And.intro hgr3 Q3)
                clear hlen hx X3 F3 Q3 hgr3
                generalize hhv : h * V = hv at *
                generalize furBase R x ring ((hv : Nat) : Int) = fb at *
                clear hhv
                go_wp2_with (go_at_call 17; refine (HC.out _ G3).mono ?_; rintro e w9 ⟨⟨v9, rfl⟩, hgr9, G9⟩)
                rw [← HHK.out] at G9
                obtain ⟨hgr3, Q3⟩ := HQ3.out
                have HR9 := Lib.hid (And.intro (hgr3.trans hgr9) (And.intro (Q3.grown hgr9 (by simp; omega)) G9))
                clear hgr3 Q3 hgr9 G9 G3 x3 f0 f1 f2 f3 q0 q1 q2 q3 q4 q5
                go_roundw
                case rel => exact ⟨h + 1, by omega, by go_num, HR9.out.1, HR9.out.2.1, HR9.out.2.2⟩
                case measure => simp [intOf]; omega
              · obtain rfl : h = H := by omega
                rw [← HRK.out] at G3
                have HR9 := Lib.hid (And.intro hgr3 (And.intro Q3 G3))
                clear hgr3 Q3 G3
                go_wp2_with fail
                go_roundw
                case rel => exact ⟨j + 1, by have := HRG.out; omega, by have := HRG.out; go_num, HR9.out.1, HR9.out.2.1, HR9.out.2.2⟩
                case measure => simp [intOf]; omega
          · have hje : fr + j = R := by omega
            have hje2 : j = R - fr := by omega
            rw [hje2, ← HFK.out] at G2
            have HR2 := Lib.hid (And.intro hgr2 G2)
            have hjn : ¬ ((fr + j : Nat) : Int) < R := by omega
            clear hje hje2 hgr2 G2 Q2
            go_wp2_with fail
            go_roundw
            case rel => exact ⟨k + 1, by omega, by go_num, HR2.out.1, HR2.out.2⟩
            case measure => simp [intOf]; omega
      · obtain rfl : k = furs.length := by omega
        obtain ⟨hB, X, Y, Fc⟩ := HB.out
        have F2 := Fc.grown hgr (by simp; omega)
        have Y2 := Y.grown hgr (by simp; omega)
        have f0 := F2.cell 0
        have f1 := F2.cell 1
        have f2 := F2.cell 2
        have f3 := F2.cell 3
        have y0 := Y2.cell 0
        have y1 := Y2.cell 1
        have y2 := Y2.cell 2
        have y3 := Y2.cell 3
        have z0 := Y2.fz 0
        have z1 := Y2.fz 1
        have z2 := Y2.fz 2
        have z3 := Y2.fz 3
        have zl := Y2.lt
        simp at f0 f1 f2 f3 y0 y1 y2 y3
        have HG := Lib.hid (And.intro G hBr)
        clear hB X Y Fc F2 Y2 hgr hBr G
        go_wp2_with fail
        refine bodyPost_ret (v := .tuple #[.agg #[.int .i64 eye, .int .i64 R, .int .i64 S, .slice (some ⟨g, 0, none⟩) M M], .int .i64 0]) (by simp [results, Try.results6, go_sem, y0, y1, y2, y3, zl]) rfl ?_
        obtain ⟨G, hBr⟩ := HG.out
        refine ⟨(((hBr.setCell (by simp) _).setCell (by simp) _).setCell (by simp) _).setCell (by simp) _, g, rfl, ?_⟩
        rw [← HK0.out]
        exact (((G.far (by simp only [ne_eq]; omega) _).far (by simp only [ne_eq]; omega) _).far (by simp only [ne_eq]; omega) _).far (by simp only [ne_eq]; omega) _

end Go.Proofs.Ytkikjmkpndmdcaa
