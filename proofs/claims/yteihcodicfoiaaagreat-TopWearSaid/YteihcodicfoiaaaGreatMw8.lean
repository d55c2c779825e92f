/-
  What is proved: the contracts of counts, Counts and RunnerCounts.
  What is proved: the contracts of Counts and RunnerCounts.
  What is proved: plain law: the counts of a floor that is alike in each harp are alike in each harp.
-/
import Derived.Test.YteihcodicfoiaaaGreatMw6
import Derived.Test.YteihcodicfoiaaaGreatMw5
import Derived.Test.YteihcodicfoiaaaGreatMw7
import Derived.Test.YteihcodicfoiaaaGreatMw4
namespace Go.Proofs.YteihcodicfoiaaaGreat
open Go.RowKit
attribute [local go_sem ↓] max_int min_int

def hitB (f : Flr) (i : Nat) : Bool := (mvsOf f (ringN f.R f.S i) (secN f.S i) (turnN f.R f.S i)).any (fun m => m.cut)
def ixOf (f : Flr) (ixF : Flr → Nat → Nat → Nat → Nat) (i : Nat) : Nat := ixF f (ringN f.R f.S i) (secN f.S i) (turnN f.R f.S i)
def cntL (f : Flr) (ixF : Flr → Nat → Nat → Nat → Nat) : Nat → List Int
  | 0 => List.replicate (f.R * f.S) 0
  | k + 1 => if hitB f k then (cntL f ixF k).set (ixOf f ixF k) ((cntL f ixF k).getD (ixOf f ixF k) 0 + 1) else cntL f ixF k
theorem cntL_len (f : Flr) (ixF : Flr → Nat → Nat → Nat → Nat) : ∀ k, (cntL f ixF k).length = f.R * f.S
  | 0 => by simp [cntL]
  | k + 1 => by
    have := cntL_len f ixF k
    simp only [cntL]
    split <;> simp [this]
theorem cntL_bd (f : Flr) (ixF : Flr → Nat → Nat → Nat → Nat) : ∀ k c, 0 ≤ (cntL f ixF k).getD c 0 ∧ (cntL f ixF k).getD c 0 ≤ k
  | 0, c => by
    simp only [cntL, List.getD_eq_getElem?_getD, List.getElem?_replicate]
    split <;> simp
  | k + 1, c => by
    have h1 := cntL_bd f ixF k c
    have h2 := cntL_bd f ixF k (ixOf f ixF k)
    simp only [cntL]
    split
    · simp only [List.getD_eq_getElem?_getD, List.getElem?_set] at h1 h2 ⊢
      split
      · split
        · simp only [Option.getD_some]; omega
        · simp; omega
      · omega
    · omega
theorem intRow_set (l : List Int) (i : Nat) (x : Int) : (intCells l).toArray.setIfInBounds i (.int .i64 x) = (intCells (l.set i x)).toArray := by
  rw [List.setIfInBounds_toArray]
  simp [intCells, List.map_set]
theorem intRow_cell {W : World} {g : Nat} {l : List Int} (h : Bk W g 3 (intCells l).toArray) {k : Nat} (hk : k < l.length) : W.cell? ⟨g, k, none⟩ = some (.int .i64 (l.getD k 0)) := by
  rw [h.cell k]
  simp [intCells, List.getD_eq_getElem?_getD, hk]
theorem intInfo : (Tryz.prog.info? 3).map (fun i => (i.zero, i.size, i.bytes)) = some (some (.int .i64 0), 1, 8) := by kernel_rfl
theorem made_ints (s : Nat) : (madeCells (Value.int .i64 0).cells (s * 1)).toList = intCells (List.replicate s 0) := by
  rw [Nat.mul_one]
  show (madeCells #[Value.int .i64 0] s).toList = _
  rw [toList_madeCells_one]
  simp [intCells]

set_option maxRecDepth 100000 in
set_option maxHeartbeats 8000000 in
theorem bedCounts_any (b q : Nat) (f : Flr) (z : FLoc) (w : World) (hf : FlAt w b f z) (hok : f.Ok) (hq : Bk w q 173 #[.pointer (some ⟨b, 0, none⟩)]) (hix : ∀ i, i < f.R * f.S * f.S → ixOf f bedIx i < f.R * f.S) :
    Calls Tryz.prog 79 #[.pointer (some ⟨b, 0, none⟩), .func (.func 82) #[] #[.pointer (some ⟨q, 0, none⟩)]] w fun e w' => ∃ g, e = .returned (.slice (some ⟨g, 0, none⟩) (f.R * f.S) (f.R * f.S)) ∧ Bk w' g 3 (intCells (cntL f bedIx (f.R * f.S * f.S))).toArray ∧ Below w.heap.size w w' := by
  have hNb : f.R * f.S * f.S ≤ 256 := Nat.mul_le_mul (Nat.mul_le_mul hok.r1 hok.s1) hok.s1
  have hM : f.R * f.S ≤ 32 := Nat.mul_le_mul hok.r1 hok.s1
  have HF := Lib.hid hf
  have HOK := Lib.hid hok
  have HQ := Lib.hid hq
  have HIX := Lib.hid hix
  obtain ⟨j0, hj0, jz0, jz1, jz2⟩ := info_parts intInfo
  have x0 := hf.cR
  have x1 := hf.cS
  have hbl := hf.blk.lt
  obtain ⟨M, hMe⟩ : ∃ M, f.R * f.S = M := ⟨_, rfl⟩
  obtain ⟨N, hNe⟩ : ∃ N, f.R * f.S * f.S = N := ⟨_, rfl⟩
  have hw1 := IntWalk.i64_in ((f.R : Int) * f.S) (by rw [show (f.R : Int) * f.S = ((f.R * f.S : Nat) : Int) by simp]; omega)
  have hcast : (f.R : Int) * f.S = (M : Int) := by rw [← hMe]; simp
  rw [hcast] at hw1
  have HST := Lib.hid (fun (X : World) (h : Below w.heap.size w X) => states_any b f z X (hf.below h) hok)
  rw [hNe] at HST hNb
  rw [hMe] at hM
  have bb2 : j0.bytes * M ≤ 281474976710656 := by rw [jz2]; omega
  have bb3 : M ≤ maxLen := by unfold maxLen; omega
  have HME := Lib.hid hMe
  have HNE := Lib.hid hNe
  rw [hNe, hMe]
  clear hMe hNe hf hok hq hix
  go_enter Tryz.func79, Tryz.ntmps79
  go_upto_region 1 with fail
  refine wp_region_extmix 9 (by kernel_rfl) (by kernel_rfl) (fun _ _ d _ _ h => by cases d <;> exact h) ?_
  simp only [List.take_succ_cons, List.take_zero, List.drop_succ_cons, List.drop_zero]
  replace x0 := fun x : Ext w => keepc x.bel x0
  replace x1 := fun x : Ext w => keepc x.bel x1
  repeat (go_big_quiet_step (fail))
  refine wpQuiet_nil ?_
  rintro _ ⟨y, rfl⟩
  clear x0 x1
  have hb1 := y.bel
  generalize y.w = w1 at hb1 ⊢
  clear hcast hw1
  have hbs1 := hb1.size
  go_wp2_with (first | (at_make; refine (wpList_make_full _ rfl _ _ 22 rfl w1.heap.size 3 j0 _ 1 Tryz.underlying22 hj0 jz0 jz1 .i64 .i64 _ _ M rfl rfl rfl rfl bb2 bb3 (Nat.le_refl _) ?_); intro w2 hown hgr; have hb2 : Below w1.heap.size w1 w2 := ⟨hgr.os, hgr.tape, hgr.output, hgr.size, fun k hk => hgr.block k hk (by simp)⟩; have hB2 := hb1.trans (hb2.mono hbs1)) | (go_at_call 122; refine (HST.out _ hB2).mono ?_; rintro e w3 ⟨rfl, hb3⟩))
  rw [made_ints] at hown
  have R2 := (own_full hown).keep hb3
  have hB3 := hB2.trans (hb3.mono hB2.size)
  obtain ⟨g, hg⟩ : ∃ g, w1.heap.size = g := ⟨_, rfl⟩
  rw [hg] at R2
  rw [hg]
  have hwg : w.heap.size ≤ g := by omega
  clear hown hgr hb2 hb3 hB2 hb1 hbs1 hg HST
  have HR0 : Hid (List.replicate M (0 : Int) = cntL f bedIx 0) := by rw [← HME.out]; rfl
  rw [HR0.out] at R2
  clear HR0
  go_loopw [20] (fun ix wr => ∃ k : Nat, k ≤ N ∧ ix = .int .i64 k ∧ Below w.heap.size w wr ∧ Bk wr g 3 (intCells (cntL f bedIx k)).toArray) (fun ix _ => N - (intOf ix).toNat)
  case atStart => exact ⟨0, Nat.zero_le _, rfl, hB3, R2⟩
  case round =>
    clear R2 hB3
    obtain ⟨k, hk, rfl, hB, R⟩ := hrel
    by_cases hlt : k < N
    · have hkI : (k : Int) < N := by omega
      obtain ⟨e1, e2, e3, e4⟩ := state_lt HOK.out (i := k) (by rw [HNE.out]; exact hlt)
      have k3 := (kinds_in HOK.out (turn := turnN f.R f.S k) e1 e2).2.2
      have HS1 := Lib.hid (state_any b f z k wr (HF.out.below hB) HOK.out e4)
      have HM1 := Lib.hid (fun (X : World) (h : Below w.heap.size w X) => moves_any b f z _ _ _ X (HF.out.below h) HOK.out e1 e2 e3)
      have HC1 := Lib.hid (fun (X : World) (h : Below w.heap.size w X) => contains42_any (z.dr.getD (mvIx f (ringN f.R f.S k) (secN f.S k) (turnN f.R f.S k)) (none, 0)).1 (z.dr.getD (mvIx f (ringN f.R f.S k) (secN f.S k) (turnN f.R f.S k)) (none, 0)).2 (mvsOf f (ringN f.R f.S k) (secN f.S k) (turnN f.R f.S k)) X ((HF.out.below h).drv _ k3) (by
        have := (HOK.out.dk _ (getD_mem [] (show mvIx f (ringN f.R f.S k) (secN f.S k) (turnN f.R f.S k) < f.drive.length by rw [HOK.out.dl]; exact k3))).2.1
        unfold mvsOf; omega))
      have HI1 := Lib.hid (fun (X : World) (h : Below w.heap.size w X) => bedIx_any b q f z _ _ _ X (HF.out.below h) HOK.out e1 e2 e3 (HQ.out.keep h))
      have hixk := HIX.out k (by rw [HNE.out]; exact hlt)
      rw [HME.out] at hixk
      have hbd := cntL_bd f bedIx k (ixOf f bedIx k)
      have hcl := cntL_len f bedIx k
      rw [HME.out] at hcl
      have HN1 : Hid (cntL f bedIx (k + 1) = if hitB f k then (cntL f bedIx k).set (ixOf f bedIx k) ((cntL f bedIx k).getD (ixOf f bedIx k) 0 + 1) else cntL f bedIx k) := rfl
      have hrc := intRow_cell R (k := ixOf f bedIx k) (by omega)
      change Hid (∀ X, Below w.heap.size w X → Calls Tryz.prog 124 _ X fun e w' => e = .returned (.bool (hitB f k)) ∧ _) at HC1
      change Hid (∀ X, Below w.heap.size w X → Calls Tryz.prog 82 _ X fun e w' => e = .returned (.int .i64 (ixOf f bedIx k)) ∧ _) at HI1
      unfold drCell at HM1
      change Hid (∀ X, Below w.heap.size w X → Calls Tryz.prog 125 _ X fun e w' => e = .returned (.slice (z.dr.getD (mvIx f (ringN f.R f.S k) (secN f.S k) (turnN f.R f.S k)) (none, 0)).1 (mvsOf f (ringN f.R f.S k) (secN f.S k) (turnN f.R f.S k)).length (z.dr.getD (mvIx f (ringN f.R f.S k) (secN f.S k) (turnN f.R f.S k)) (none, 0)).2) ∧ _) at HM1
      unfold stV at HS1 HM1 HI1
      have HRR := Lib.hid R
      clear R e1 e2 e3 e4 k3
      generalize (z.dr.getD (mvIx f (ringN f.R f.S k) (secN f.S k) (turnN f.R f.S k)) (none, 0)).1 = A at *
      generalize (z.dr.getD (mvIx f (ringN f.R f.S k) (secN f.S k) (turnN f.R f.S k)) (none, 0)).2 = cc at *
      generalize (mvsOf f (ringN f.R f.S k) (secN f.S k) (turnN f.R f.S k)).length = ml at *
      generalize ringN f.R f.S k = ring at *
      generalize secN f.S k = sec at *
      generalize turnN f.R f.S k = turn at *
      generalize ixOf f bedIx k = ix at *
      generalize (cntL f bedIx k).getD ix 0 = cv at *
      go_upto_region 6 with (go_at_call 123; refine (HS1.out).mono ?_; rintro e w5 ⟨rfl, hb5⟩)
      have S4 : Bk (w5.alloc (.cells #[.int .i64 ring, .int .i64 sec, .int .i64 turn] 178)) w5.heap.size 178 #[.int .i64 ring, .int .i64 sec, .int .i64 turn] := bk_last rfl
      have hb6 : Below w5.heap.size w5 (w5.alloc (.cells #[.int .i64 ring, .int .i64 sec, .int .i64 turn] 178)) := (Below.refl _ _).alloc (Nat.le_refl _) _
      have hb56 := hb5.trans (hb6.mono hb5.size)
      generalize w5.alloc (.cells #[.int .i64 ring, .int .i64 sec, .int .i64 turn] 178) = w6 at *
      generalize w5.heap.size = q4 at *
      have hB6 := hB.trans (hb56.mono hB.size)
      have s0 := S4.cell 0
      have s1 := S4.cell 1
      have s2 := S4.cell 2
      simp at s0 s1 s2
      have HCV := Lib.hid hrc
      clear hb5 hb6 HS1 hrc
      go_wp2_with fail
      refine (HM1.out _ hB6).mono ?_
      rintro e w7 ⟨rfl, hb7⟩
      have hB7 := hB6.trans (hb7.mono hB6.size)
      have hb57 := hb56.trans (hb7.mono hb56.size)
      replace S4 := S4.keep hb7
      clear s0 s1 s2 hb7 hB6 hb56 HM1
      go_wp2_with fail
      refine (HC1.out _ hB7).mono ?_
      rintro e w8 ⟨rfl, hb8⟩
      have hB8 := hB7.trans (hb8.mono hB7.size)
      have hb58 := hb57.trans (hb8.mono hb57.size)
      replace S4 := S4.keep hb8
      clear hb8 hB7 hb57 HC1
      have R8 := HRR.out.keep hb58
      cases hh : hitB f k
      · have HH := Lib.hid hh
        clear hh S4
        have HN2 : Hid (cntL f bedIx (k + 1) = cntL f bedIx k) := by rw [Hid, HN1.out, HH.out]; rfl
        go_wp2_with fail
        go_roundw
        case rel => exact ⟨k + 1, by omega, by go_num, hB8, by rw [HN2.out]; exact R8⟩
        case measure => simp [intOf]; omega
      · have HH := Lib.hid hh
        clear hh
        have HN2 : Hid (cntL f bedIx (k + 1) = (cntL f bedIx k).set ix (cv + 1)) := by rw [Hid, HN1.out, HH.out]; rfl
        have s0 := S4.cell 0
        have s1 := S4.cell 1
        have s2 := S4.cell 2
        simp at s0 s1 s2
        have HR8 := Lib.hid R8
        clear R8 HN1
        go_wp2_with (go_at_call 82; refine (HI1.out _ hB8).mono ?_; rintro e w9 ⟨rfl, hb9⟩; have R9 := HR8.out.keep hb9; have t1 := R9.fz ix; have t2 := R9.lt; have hrl : w9.cell? ⟨g, ix, none⟩ = some (.int .i64 cv) := (by have h1 := R9.cell ix; have h2 := HRR.out.cell ix; rw [h1, ← h2]; exact HCV.out); have hixI : (ix : Int) < M := (by omega); have HR9 := Lib.hid R9; clear R9)
        have hB9 := hB8.trans (hb9.mono hB8.size)
        have HB10 := Lib.hid (hB9.setCell (p := ⟨g, ix, none⟩) hwg (.int .i64 (cv + 1)))
        have P9 := HR9.out.put ix (.int .i64 (cv + 1))
        rw [intRow_set] at P9
        have HP9 := Lib.hid P9
        clear P9 t1 t2 hrl s0 s1 s2
        go_roundw
        case rel => exact ⟨k + 1, by omega, by go_num, HB10.out, by rw [HN2.out]; exact HP9.out⟩
        case measure => simp [intOf]; omega
    · obtain rfl : k = N := by omega
      go_wp2_with fail
      go_ret
      exact ⟨g, rfl, R, hB⟩

set_option maxRecDepth 100000 in
set_option maxHeartbeats 8000000 in
theorem runCounts_any (b q : Nat) (f : Flr) (z : FLoc) (w : World) (hf : FlAt w b f z) (hok : f.Ok) (hq : Bk w q 173 #[.pointer (some ⟨b, 0, none⟩)]) (hix : ∀ i, i < f.R * f.S * f.S → ixOf f runIx i < f.R * f.S) :
    Calls Tryz.prog 79 #[.pointer (some ⟨b, 0, none⟩), .func (.func 80) #[] #[.pointer (some ⟨q, 0, none⟩)]] w fun e w' => ∃ g, e = .returned (.slice (some ⟨g, 0, none⟩) (f.R * f.S) (f.R * f.S)) ∧ Bk w' g 3 (intCells (cntL f runIx (f.R * f.S * f.S))).toArray ∧ Below w.heap.size w w' := by
  have hNb : f.R * f.S * f.S ≤ 256 := Nat.mul_le_mul (Nat.mul_le_mul hok.r1 hok.s1) hok.s1
  have hM : f.R * f.S ≤ 32 := Nat.mul_le_mul hok.r1 hok.s1
  have HF := Lib.hid hf
  have HOK := Lib.hid hok
  have HQ := Lib.hid hq
  have HIX := Lib.hid hix
  obtain ⟨j0, hj0, jz0, jz1, jz2⟩ := info_parts intInfo
  have x0 := hf.cR
  have x1 := hf.cS
  have hbl := hf.blk.lt
  obtain ⟨M, hMe⟩ : ∃ M, f.R * f.S = M := ⟨_, rfl⟩
  obtain ⟨N, hNe⟩ : ∃ N, f.R * f.S * f.S = N := ⟨_, rfl⟩
  have hw1 := IntWalk.i64_in ((f.R : Int) * f.S) (by rw [show (f.R : Int) * f.S = ((f.R * f.S : Nat) : Int) by simp]; omega)
  have hcast : (f.R : Int) * f.S = (M : Int) := by rw [← hMe]; simp
  rw [hcast] at hw1
  have HST := Lib.hid (fun (X : World) (h : Below w.heap.size w X) => states_any b f z X (hf.below h) hok)
  rw [hNe] at HST hNb
  rw [hMe] at hM
  have bb2 : j0.bytes * M ≤ 281474976710656 := by rw [jz2]; omega
  have bb3 : M ≤ maxLen := by unfold maxLen; omega
  have HME := Lib.hid hMe
  have HNE := Lib.hid hNe
  rw [hNe, hMe]
  clear hMe hNe hf hok hq hix
  go_enter Tryz.func79, Tryz.ntmps79
  go_upto_region 1 with fail
  refine wp_region_extmix 9 (by kernel_rfl) (by kernel_rfl) (fun _ _ d _ _ h => by cases d <;> exact h) ?_
  simp only [List.take_succ_cons, List.take_zero, List.drop_succ_cons, List.drop_zero]
  replace x0 := fun x : Ext w => keepc x.bel x0
  replace x1 := fun x : Ext w => keepc x.bel x1
  repeat (go_big_quiet_step (fail))
  refine wpQuiet_nil ?_
  rintro _ ⟨y, rfl⟩
  clear x0 x1
  have hb1 := y.bel
  generalize y.w = w1 at hb1 ⊢
  clear hcast hw1
  have hbs1 := hb1.size
  go_wp2_with (first | (at_make; refine (wpList_make_full _ rfl _ _ 22 rfl w1.heap.size 3 j0 _ 1 Tryz.underlying22 hj0 jz0 jz1 .i64 .i64 _ _ M rfl rfl rfl rfl bb2 bb3 (Nat.le_refl _) ?_); intro w2 hown hgr; have hb2 : Below w1.heap.size w1 w2 := ⟨hgr.os, hgr.tape, hgr.output, hgr.size, fun k hk => hgr.block k hk (by simp)⟩; have hB2 := hb1.trans (hb2.mono hbs1)) | (go_at_call 122; refine (HST.out _ hB2).mono ?_; rintro e w3 ⟨rfl, hb3⟩))
  rw [made_ints] at hown
  have R2 := (own_full hown).keep hb3
  have hB3 := hB2.trans (hb3.mono hB2.size)
  obtain ⟨g, hg⟩ : ∃ g, w1.heap.size = g := ⟨_, rfl⟩
  rw [hg] at R2
  rw [hg]
  have hwg : w.heap.size ≤ g := by omega
  clear hown hgr hb2 hb3 hB2 hb1 hbs1 hg HST
  have HR0 : Hid (List.replicate M (0 : Int) = cntL f runIx 0) := by rw [← HME.out]; rfl
  rw [HR0.out] at R2
  clear HR0
  go_loopw [20] (fun ix wr => ∃ k : Nat, k ≤ N ∧ ix = .int .i64 k ∧ Below w.heap.size w wr ∧ Bk wr g 3 (intCells (cntL f runIx k)).toArray) (fun ix _ => N - (intOf ix).toNat)
  case atStart => exact ⟨0, Nat.zero_le _, rfl, hB3, R2⟩
  case round =>
    clear R2 hB3
    obtain ⟨k, hk, rfl, hB, R⟩ := hrel
    by_cases hlt : k < N
    · have hkI : (k : Int) < N := by omega
      obtain ⟨e1, e2, e3, e4⟩ := state_lt HOK.out (i := k) (by rw [HNE.out]; exact hlt)
      have k3 := (kinds_in HOK.out (turn := turnN f.R f.S k) e1 e2).2.2
      have HS1 := Lib.hid (state_any b f z k wr (HF.out.below hB) HOK.out e4)
      have HM1 := Lib.hid (fun (X : World) (h : Below w.heap.size w X) => moves_any b f z _ _ _ X (HF.out.below h) HOK.out e1 e2 e3)
      have HC1 := Lib.hid (fun (X : World) (h : Below w.heap.size w X) => contains42_any (z.dr.getD (mvIx f (ringN f.R f.S k) (secN f.S k) (turnN f.R f.S k)) (none, 0)).1 (z.dr.getD (mvIx f (ringN f.R f.S k) (secN f.S k) (turnN f.R f.S k)) (none, 0)).2 (mvsOf f (ringN f.R f.S k) (secN f.S k) (turnN f.R f.S k)) X ((HF.out.below h).drv _ k3) (by
        have := (HOK.out.dk _ (getD_mem [] (show mvIx f (ringN f.R f.S k) (secN f.S k) (turnN f.R f.S k) < f.drive.length by rw [HOK.out.dl]; exact k3))).2.1
        unfold mvsOf; omega))
      have HI1 := Lib.hid (fun (X : World) (h : Below w.heap.size w X) => runIx_any b q f z _ _ _ X (HF.out.below h) HOK.out e1 e2 e3 (HQ.out.keep h))
      have hixk := HIX.out k (by rw [HNE.out]; exact hlt)
      rw [HME.out] at hixk
      have hbd := cntL_bd f runIx k (ixOf f runIx k)
      have hcl := cntL_len f runIx k
      rw [HME.out] at hcl
      have HN1 : Hid (cntL f runIx (k + 1) = if hitB f k then (cntL f runIx k).set (ixOf f runIx k) ((cntL f runIx k).getD (ixOf f runIx k) 0 + 1) else cntL f runIx k) := rfl
      have hrc := intRow_cell R (k := ixOf f runIx k) (by omega)
      change Hid (∀ X, Below w.heap.size w X → Calls Tryz.prog 124 _ X fun e w' => e = .returned (.bool (hitB f k)) ∧ _) at HC1
      change Hid (∀ X, Below w.heap.size w X → Calls Tryz.prog 80 _ X fun e w' => e = .returned (.int .i64 (ixOf f runIx k)) ∧ _) at HI1
      unfold drCell at HM1
      change Hid (∀ X, Below w.heap.size w X → Calls Tryz.prog 125 _ X fun e w' => e = .returned (.slice (z.dr.getD (mvIx f (ringN f.R f.S k) (secN f.S k) (turnN f.R f.S k)) (none, 0)).1 (mvsOf f (ringN f.R f.S k) (secN f.S k) (turnN f.R f.S k)).length (z.dr.getD (mvIx f (ringN f.R f.S k) (secN f.S k) (turnN f.R f.S k)) (none, 0)).2) ∧ _) at HM1
      unfold stV at HS1 HM1 HI1
      have HRR := Lib.hid R
      clear R e1 e2 e3 e4 k3
      generalize (z.dr.getD (mvIx f (ringN f.R f.S k) (secN f.S k) (turnN f.R f.S k)) (none, 0)).1 = A at *
      generalize (z.dr.getD (mvIx f (ringN f.R f.S k) (secN f.S k) (turnN f.R f.S k)) (none, 0)).2 = cc at *
      generalize (mvsOf f (ringN f.R f.S k) (secN f.S k) (turnN f.R f.S k)).length = ml at *
      generalize ringN f.R f.S k = ring at *
      generalize secN f.S k = sec at *
      generalize turnN f.R f.S k = turn at *
      generalize ixOf f runIx k = ix at *
      generalize (cntL f runIx k).getD ix 0 = cv at *
      go_upto_region 6 with (go_at_call 123; refine (HS1.out).mono ?_; rintro e w5 ⟨rfl, hb5⟩)
      have S4 : Bk (w5.alloc (.cells #[.int .i64 ring, .int .i64 sec, .int .i64 turn] 178)) w5.heap.size 178 #[.int .i64 ring, .int .i64 sec, .int .i64 turn] := bk_last rfl
      have hb6 : Below w5.heap.size w5 (w5.alloc (.cells #[.int .i64 ring, .int .i64 sec, .int .i64 turn] 178)) := (Below.refl _ _).alloc (Nat.le_refl _) _
      have hb56 := hb5.trans (hb6.mono hb5.size)
      generalize w5.alloc (.cells #[.int .i64 ring, .int .i64 sec, .int .i64 turn] 178) = w6 at *
      generalize w5.heap.size = q4 at *
      have hB6 := hB.trans (hb56.mono hB.size)
      have s0 := S4.cell 0
      have s1 := S4.cell 1
      have s2 := S4.cell 2
      simp at s0 s1 s2
      have HCV := Lib.hid hrc
      clear hb5 hb6 HS1 hrc
      go_wp2_with fail
      refine (HM1.out _ hB6).mono ?_
      rintro e w7 ⟨rfl, hb7⟩
      have hB7 := hB6.trans (hb7.mono hB6.size)
      have hb57 := hb56.trans (hb7.mono hb56.size)
      replace S4 := S4.keep hb7
      clear s0 s1 s2 hb7 hB6 hb56 HM1
      go_wp2_with fail
      refine (HC1.out _ hB7).mono ?_
      rintro e w8 ⟨rfl, hb8⟩
      have hB8 := hB7.trans (hb8.mono hB7.size)
      have hb58 := hb57.trans (hb8.mono hb57.size)
      replace S4 := S4.keep hb8
      clear hb8 hB7 hb57 HC1
      have R8 := HRR.out.keep hb58
      cases hh : hitB f k
      · have HH := Lib.hid hh
        clear hh S4
        have HN2 : Hid (cntL f runIx (k + 1) = cntL f runIx k) := by rw [Hid, HN1.out, HH.out]; rfl
        go_wp2_with fail
        go_roundw
        case rel => exact ⟨k + 1, by omega, by go_num, hB8, by rw [HN2.out]; exact R8⟩
        case measure => simp [intOf]; omega
      · have HH := Lib.hid hh
        clear hh
        have HN2 : Hid (cntL f runIx (k + 1) = (cntL f runIx k).set ix (cv + 1)) := by rw [Hid, HN1.out, HH.out]; rfl
        have s0 := S4.cell 0
        have s1 := S4.cell 1
        have s2 := S4.cell 2
        simp at s0 s1 s2
        have HR8 := Lib.hid R8
        clear R8 HN1
        go_wp2_with (go_at_call 80; refine (HI1.out _ hB8).mono ?_; rintro e w9 ⟨rfl, hb9⟩; have R9 := HR8.out.keep hb9; have t1 := R9.fz ix; have t2 := R9.lt; have hrl : w9.cell? ⟨g, ix, none⟩ = some (.int .i64 cv) := (by have h1 := R9.cell ix; have h2 := HRR.out.cell ix; rw [h1, ← h2]; exact HCV.out); have hixI : (ix : Int) < M := (by omega); have HR9 := Lib.hid R9; clear R9)
        have hB9 := hB8.trans (hb9.mono hB8.size)
        have HB10 := Lib.hid (hB9.setCell (p := ⟨g, ix, none⟩) hwg (.int .i64 (cv + 1)))
        have P9 := HR9.out.put ix (.int .i64 (cv + 1))
        rw [intRow_set] at P9
        have HP9 := Lib.hid P9
        clear P9 t1 t2 hrl s0 s1 s2
        go_roundw
        case rel => exact ⟨k + 1, by omega, by go_num, HB10.out, by rw [HN2.out]; exact HP9.out⟩
        case measure => simp [intOf]; omega
    · obtain rfl : k = N := by omega
      go_wp2_with fail
      go_ret
      exact ⟨g, rfl, R, hB⟩

end Go.Proofs.YteihcodicfoiaaaGreat
namespace Go.Proofs.YteihcodicfoiaaaGreat
open Go.RowKit
attribute [local go_sem ↓] max_int min_int

theorem state_parts {f : Flr} (hok : f.Ok) {i : Nat} (hi : i < f.R * f.S * f.S) : bedIx f (ringN f.R f.S i) (secN f.S i) (turnN f.R f.S i) < f.R * f.S ∧ runIx f (ringN f.R f.S i) (secN f.S i) (turnN f.R f.S i) < f.R * f.S := by
  obtain ⟨e1, e2, e3, _⟩ := state_lt hok hi
  exact ⟨cell_lt e1 e2, cell_lt e1 (runS_lt (by have := hok.s0; omega))⟩

def CountsP (f : Flr) (ixF : Flr → Nat → Nat → Nat → Nat) (w : World) (e : Ending) (w' : World) : Prop :=
  Below w.heap.size w w' ∧ ∃ g, e = .returned (.tuple #[.slice (some ⟨g, 0, none⟩) (f.R * f.S) (f.R * f.S), .int .i64 0]) ∧ Bk w' g 3 (intCells (cntL f ixF (f.R * f.S * f.S))).toArray

set_option maxRecDepth 100000 in
set_option maxHeartbeats 4000000 in
theorem Counts_any (f : Flr) (z : FLoc) (w : World) (hp : PrAt w f z) (hpre : f.Pre) (hd : drvOk f = true) :
    Calls Tryz.prog 39 #[f.pr z] w (CountsP f bedIx w) := by
  have HO := Lib.hid (fun (X : World) (h : Below w.heap.size w X) => open_any f z X (hp.below h) hpre)
  have hok := hpre.ok hd
  have HC := Lib.hid (fun (b q : Nat) (X : World) (hf : FlAt X b f z) (hq : Bk X q 173 #[.pointer (some ⟨b, 0, none⟩)]) => bedCounts_any b q f z X hf hok hq (fun i hi => (state_parts hok hi).1))
  have HD := Lib.hid hd
  clear hok
  unfold Flr.pr at *
  obtain ⟨W, hW⟩ : ∃ W, w.alloc (.cells #[.int .i64 f.eye, .int .i64 f.R, .int .i64 f.S, .slice z.A1 f.bed.length z.c1, .int .i64 f.eye, .int .i64 f.R, .int .i64 f.S, .slice z.A2 f.run.length z.c2, .slice z.A3 f.drive.length z.c3] 27) = W := ⟨_, rfl⟩
  have hbW : Below w.heap.size w W := by rw [← hW]; exact (Below.refl _ _).alloc (Nat.le_refl _) _
  have X := (show Bk W w.heap.size 27 #[.int .i64 f.eye, .int .i64 f.R, .int .i64 f.S, .slice z.A1 f.bed.length z.c1, .int .i64 f.eye, .int .i64 f.R, .int .i64 f.S, .slice z.A2 f.run.length z.c2, .slice z.A3 f.drive.length z.c3] by rw [← hW]; exact bk_last rfl)
  have x0 := X.cell 0
  have x1 := X.cell 1
  have x2 := X.cell 2
  have x3 := X.cell 3
  have x4 := X.cell 4
  have x5 := X.cell 5
  have x6 := X.cell 6
  have x7 := X.cell 7
  have x8 := X.cell 8
  simp at x0 x1 x2 x3 x4 x5 x6 x7 x8
  have HW := Lib.hid hW
  clear hW hp hpre X hd
  go_enter Tryz.func39, Tryz.ntmps39
  go_upto_region 1 with fail
  rw [HW.out]
  clear HW
  go_wp2_with fail
  refine (HO.out W hbW).mono ?_
  clear x0 x1 x2 x3 x4 x5 x6 x7 x8 HO
  rintro e w2 ⟨hb2, h⟩
  have hB := hbW.trans (hb2.mono hbW.size)
  rcases h with ⟨_, b, _, rfl, hfl⟩ | ⟨hd, rfl⟩
  · have Q : Bk (w2.alloc (.cells #[.pointer (some ⟨b, 0, none⟩)] 173)) w2.heap.size 173 #[.pointer (some ⟨b, 0, none⟩)] := bk_last rfl
    have hb3 : Below w2.heap.size w2 (w2.alloc (.cells #[.pointer (some ⟨b, 0, none⟩)] 173)) := (Below.refl _ _).alloc (Nat.le_refl _) _
    have HC2 := Lib.hid (HC.out b w2.heap.size _ (hfl.below hb3) Q)
    have hB3 := hB.trans (hb3.mono hB.size)
    clear hb2 hb3 hfl Q HC HD hbW hB
    go_wp2_with fail
    refine (HC2.out).mono ?_
    clear HC2
    rintro e w4 ⟨g, rfl, hg, hb4⟩
    have hB4 := hB3.trans (hb4.mono hB3.size)
    have HG := Lib.hid hg
    clear hg hb4 hB3
    generalize hM : f.R * f.S = M at *
    have HM := Lib.hid hM
    clear hM
    go_wp2_with fail
    go_ret2
    exact ⟨hB4, g, by rw [HM.out]; rfl, by rw [HM.out]; exact HG.out⟩
  · rw [HD.out] at hd
    cases hd

set_option maxRecDepth 100000 in
set_option maxHeartbeats 4000000 in
theorem RunnerCounts_any (f : Flr) (z : FLoc) (w : World) (hp : PrAt w f z) (hpre : f.Pre) (hd : drvOk f = true) :
    Calls Tryz.prog 38 #[f.pr z] w (CountsP f runIx w) := by
  have HO := Lib.hid (fun (X : World) (h : Below w.heap.size w X) => open_any f z X (hp.below h) hpre)
  have hok := hpre.ok hd
  have HC := Lib.hid (fun (b q : Nat) (X : World) (hf : FlAt X b f z) (hq : Bk X q 173 #[.pointer (some ⟨b, 0, none⟩)]) => runCounts_any b q f z X hf hok hq (fun i hi => (state_parts hok hi).2))
  have HD := Lib.hid hd
  clear hok
  unfold Flr.pr at *
  obtain ⟨W, hW⟩ : ∃ W, w.alloc (.cells #[.int .i64 f.eye, .int .i64 f.R, .int .i64 f.S, .slice z.A1 f.bed.length z.c1, .int .i64 f.eye, .int .i64 f.R, .int .i64 f.S, .slice z.A2 f.run.length z.c2, .slice z.A3 f.drive.length z.c3] 27) = W := ⟨_, rfl⟩
  have hbW : Below w.heap.size w W := by rw [← hW]; exact (Below.refl _ _).alloc (Nat.le_refl _) _
  have X := (show Bk W w.heap.size 27 #[.int .i64 f.eye, .int .i64 f.R, .int .i64 f.S, .slice z.A1 f.bed.length z.c1, .int .i64 f.eye, .int .i64 f.R, .int .i64 f.S, .slice z.A2 f.run.length z.c2, .slice z.A3 f.drive.length z.c3] by rw [← hW]; exact bk_last rfl)
  have x0 := X.cell 0
  have x1 := X.cell 1
  have x2 := X.cell 2
  have x3 := X.cell 3
  have x4 := X.cell 4
  have x5 := X.cell 5
  have x6 := X.cell 6
  have x7 := X.cell 7
  have x8 := X.cell 8
  simp at x0 x1 x2 x3 x4 x5 x6 x7 x8
  have HW := Lib.hid hW
  clear hW hp hpre X hd
  go_enter Tryz.func38, Tryz.ntmps38
  go_upto_region 1 with fail
  rw [HW.out]
  clear HW
  go_wp2_with fail
  refine (HO.out W hbW).mono ?_
  clear x0 x1 x2 x3 x4 x5 x6 x7 x8 HO
  rintro e w2 ⟨hb2, h⟩
  have hB := hbW.trans (hb2.mono hbW.size)
  rcases h with ⟨_, b, _, rfl, hfl⟩ | ⟨hd, rfl⟩
  · have Q : Bk (w2.alloc (.cells #[.pointer (some ⟨b, 0, none⟩)] 173)) w2.heap.size 173 #[.pointer (some ⟨b, 0, none⟩)] := bk_last rfl
    have hb3 : Below w2.heap.size w2 (w2.alloc (.cells #[.pointer (some ⟨b, 0, none⟩)] 173)) := (Below.refl _ _).alloc (Nat.le_refl _) _
    have HC2 := Lib.hid (HC.out b w2.heap.size _ (hfl.below hb3) Q)
    have hB3 := hB.trans (hb3.mono hB.size)
    clear hb2 hb3 hfl Q HC HD hbW hB
    go_wp2_with fail
    refine (HC2.out).mono ?_
    clear HC2
    rintro e w4 ⟨g, rfl, hg, hb4⟩
    have hB4 := hB3.trans (hb4.mono hB3.size)
    have HG := Lib.hid hg
    clear hg hb4 hB3
    generalize hM : f.R * f.S = M at *
    have HM := Lib.hid hM
    clear hM
    go_wp2_with fail
    go_ret2
    exact ⟨hB4, g, by rw [HM.out]; rfl, by rw [HM.out]; exact HG.out⟩
  · rw [HD.out] at hd
    cases hd

end Go.Proofs.YteihcodicfoiaaaGreat
namespace Go.Proofs.YteihcodicfoiaaaGreat

def sumN (h : Nat → Int) : Nat → Int
  | 0 => 0
  | n + 1 => sumN h n + h n
theorem sumN_congr {h g : Nat → Int} : ∀ n, (∀ i, i < n → h i = g i) → sumN h n = sumN g n
  | 0, _ => rfl
  | n + 1, e => by rw [sumN, sumN, sumN_congr n (fun i hi => e i (by omega)), e n (by omega)]
theorem sumN_add (h : Nat → Int) (a : Nat) : ∀ b, sumN h (a + b) = sumN h a + sumN (fun i => h (a + i)) b
  | 0 => by simp [sumN]
  | b + 1 => by rw [← Nat.add_assoc, sumN, sumN_add h a b, sumN]; omega
theorem sumN_mul (h : Nat → Int) (S : Nat) : ∀ B, sumN h (B * S) = sumN (fun b => sumN (fun s => h (b * S + s)) S) B
  | 0 => by simp [sumN]
  | B + 1 => by rw [Nat.add_mul, Nat.one_mul, sumN_add, sumN_mul h S B, sumN]
theorem mod_small {a V S : Nat} (ha : a < S) (hV : V ≤ S) : (a + V) % S = if a + V < S then a + V else a + V - S := by
  split
  · rename_i h; exact Nat.mod_eq_of_lt h
  · rename_i h
    rw [Nat.mod_eq_sub_mod (by omega), Nat.mod_eq_of_lt (by omega)]
theorem sumN_rot (h : Nat → Int) {S V : Nat} (hV : V ≤ S) : sumN (fun s => h ((s + V) % S)) S = sumN h S := by
  obtain ⟨d, rfl⟩ : ∃ d, S = d + V := ⟨S - V, by omega⟩
  have e1 : sumN (fun s => h ((s + V) % (d + V))) d = sumN (fun i => h (V + i)) d := sumN_congr d fun i hi => by
    rw [mod_small (by omega) (by omega), if_pos (by omega), Nat.add_comm]
  have e2 : sumN (fun s => h ((d + s + V) % (d + V))) V = sumN h V := sumN_congr V fun i hi => by
    rw [mod_small (by omega) (by omega), if_neg (by omega)]
    congr 1
    omega
  rw [sumN_add (fun s => h ((s + V) % (d + V))), e1, e2, Nat.add_comm d V, sumN_add h]
  omega
theorem mod_inj {a b V S : Nat} (ha : a < S) (hb : b < S) (hV : V ≤ S) (h : (a + V) % S = (b + V) % S) : a = b := by
  rw [mod_small ha hV, mod_small hb hV] at h
  split at h <;> split at h <;> omega
theorem pair_inj {S a b x y : Nat} (hx : x < S) (hy : y < S) (h : a * S + x = b * S + y) : a = b ∧ x = y := by
  have e : (a * S + x) / S = (b * S + y) / S := by rw [h]
  rw [Nat.mul_comm, Nat.mul_add_div (by omega), Nat.div_eq_of_lt hx, Nat.mul_comm b, Nat.mul_add_div (by omega), Nat.div_eq_of_lt hy] at e
  have e' : a = b := by omega
  subst e'
  exact ⟨rfl, by omega⟩

open Classical in
theorem cnt_sum (f : Flr) (ixF : Flr → Nat → Nat → Nat → Nat) (c : Nat) : ∀ k, (∀ i, i < k → ixOf f ixF i < f.R * f.S) → (cntL f ixF k).getD c 0 = sumN (fun i => if hitB f i = true ∧ ixOf f ixF i = c then 1 else 0) k
  | 0, _ => by
    simp only [cntL, sumN, List.getD_eq_getElem?_getD, List.getElem?_replicate]
    split <;> rfl
  | k + 1, hix => by
    have ih := fun c => cnt_sum f ixF c k (fun i hi => hix i (by omega))
    have hl := cntL_len f ixF k
    have hk := hix k (by omega)
    rw [sumN, ← ih c]
    simp only [cntL]
    by_cases h1 : hitB f k = true
    · rw [if_pos h1]
      by_cases h2 : ixOf f ixF k = c
      · rw [if_pos ⟨h1, h2⟩, h2]
        rw [List.getD_eq_getElem?_getD, List.getElem?_set_self (by omega)]
        rfl
      · rw [if_neg (fun a => h2 a.2), List.getD_eq_getElem?_getD, List.getElem?_set_ne h2, ← List.getD_eq_getElem?_getD]
        omega
    · rw [if_neg h1, if_neg (fun a => h1 a.1)]
      omega

theorem block_parts {R S b s : Nat} (hs : s < S) : ringN R S (b * S + s) = b % R ∧ secN S (b * S + s) = s ∧ turnN R S (b * S + s) = b / R := by
  have e : (b * S + s) / S = b := by rw [Nat.mul_comm, Nat.mul_add_div (by omega), Nat.div_eq_of_lt hs, Nat.add_zero]
  refine ⟨?_, ?_, ?_⟩
  · unfold ringN; rw [e]
  · unfold secN; rw [Nat.mul_comm, Nat.mul_add_mod]; exact Nat.mod_eq_of_lt hs
  · unfold turnN; rw [← Nat.div_div_eq_div_mul, e]

/-- Counts by a place that goes round with the harps. -/
theorem cnt_per {f : Flr} {V : Nat} (hok : f.Ok) (hp : PerF f V) (hV : V ≤ f.S) (ixF : Flr → Nat → Nat → Nat → Nat) (se : Nat → Nat → Nat)
    (h1 : ∀ ring sec turn, sec < f.S → turn < f.S → ixF f ring sec turn = ring * f.S + se sec turn) (h2 : ∀ sec turn, sec < f.S → turn < f.S → se sec turn < f.S)
    (h3 : ∀ sec turn, sec < f.S → turn < f.S → se ((sec + V) % f.S) turn = (se sec turn + V) % f.S) {ring sec : Nat} (hr : ring < f.R) (hs : sec < f.S) :
    (cntL f ixF (f.R * f.S * f.S)).getD (ring * f.S + (sec + V) % f.S) 0 = (cntL f ixF (f.R * f.S * f.S)).getD (ring * f.S + sec) 0 := by
  have hS : 0 < f.S := by have := hok.s0; omega
  have hix : ∀ i, i < f.R * f.S * f.S → ixOf f ixF i < f.R * f.S := fun i hi => by
    obtain ⟨e1, e2, e3, _⟩ := state_lt hok hi
    unfold ixOf
    rw [h1 _ _ _ e2 e3]
    exact cell_lt e1 (h2 _ _ e2 e3)
  rw [cnt_sum f ixF _ _ hix, cnt_sum f ixF _ _ hix, sumN_mul _ f.S (f.R * f.S), sumN_mul _ f.S (f.R * f.S)]
  refine sumN_congr _ fun b hb => ?_
  rw [← sumN_rot _ hV]
  refine sumN_congr _ fun s hs' => ?_
  have hs2 : (s + V) % f.S < f.S := Nat.mod_lt _ hS
  have hbR : b % f.R < f.R := Nat.mod_lt _ (by have := hok.r0; omega)
  have hbT : b / f.R < f.S := by
    rw [Nat.div_lt_iff_lt_mul (by have := hok.r0; omega), Nat.mul_comm]; exact hb
  obtain ⟨a1, a2, a3⟩ := block_parts (R := f.R) (b := b) hs2
  obtain ⟨b1, b2, b3⟩ := block_parts (R := f.R) (b := b) hs'
  have eh : hitB f (b * f.S + (s + V) % f.S) = hitB f (b * f.S + s) := by
    unfold hitB
    rw [a1, a2, a3, b1, b2, b3, mvs_rot hp hbR hs' hbT]
  rw [eh]
  have ei : ixOf f ixF (b * f.S + (s + V) % f.S) = (b % f.R) * f.S + (se s (b / f.R) + V) % f.S := by
    unfold ixOf
    rw [a1, a2, a3, h1 _ _ _ hs2 hbT, h3 _ _ hs' hbT]
  have ej : ixOf f ixF (b * f.S + s) = (b % f.R) * f.S + se s (b / f.R) := by
    unfold ixOf
    rw [b1, b2, b3, h1 _ _ _ hs' hbT]
  rw [ei, ej]
  have hse := h2 s (b / f.R) hs' hbT
  have key : ((b % f.R) * f.S + (se s (b / f.R) + V) % f.S = ring * f.S + (sec + V) % f.S) ↔ ((b % f.R) * f.S + se s (b / f.R) = ring * f.S + sec) := by
    constructor
    · intro h
      obtain ⟨p, q⟩ := pair_inj (Nat.mod_lt _ hS) (Nat.mod_lt _ hS) h
      rw [p, mod_inj hse hs hV q]
    · intro h
      obtain ⟨p, q⟩ := pair_inj hse hs h
      rw [p, q]
  by_cases hh : hitB f (b * f.S + s) = true ∧ (b % f.R) * f.S + se s (b / f.R) = ring * f.S + sec
  · rw [if_pos hh, if_pos ⟨hh.1, key.2 hh.2⟩]
  · rw [if_neg hh, if_neg (fun a => hh ⟨a.1, key.1 a.2⟩)]

theorem bed_per {f : Flr} {V : Nat} (hok : f.Ok) (hp : PerF f V) (hV : V ≤ f.S) {ring sec : Nat} (hr : ring < f.R) (hs : sec < f.S) :
    (cntL f bedIx (f.R * f.S * f.S)).getD (ring * f.S + (sec + V) % f.S) 0 = (cntL f bedIx (f.R * f.S * f.S)).getD (ring * f.S + sec) 0 :=
  cnt_per hok hp hV bedIx (fun sec _ => sec) (fun _ _ _ _ _ => rfl) (fun _ _ h _ => h) (fun _ _ _ _ => rfl) hr hs
theorem run_per {f : Flr} {V : Nat} (hok : f.Ok) (hp : PerF f V) (hV : V ≤ f.S) {ring sec : Nat} (hr : ring < f.R) (hs : sec < f.S) :
    (cntL f runIx (f.R * f.S * f.S)).getD (ring * f.S + (sec + V) % f.S) 0 = (cntL f runIx (f.R * f.S * f.S)).getD (ring * f.S + sec) 0 :=
  cnt_per hok hp hV runIx (fun sec turn => runS f.S sec turn) (fun _ _ _ _ _ => rfl) (fun _ _ h _ => runS_lt (by omega)) (fun _ _ h1 h2 => runS_rot h1 h2) hr hs

end Go.Proofs.YteihcodicfoiaaaGreat
