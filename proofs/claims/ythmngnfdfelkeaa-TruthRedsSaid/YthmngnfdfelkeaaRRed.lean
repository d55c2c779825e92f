/-
  What is proved: the contracts of the reference's within and Red.
-/
import Derived.Test.YthmngnfdfelkeaaRed
import Derived.Test.YthmngnfdfelkeaaIter
import Derived.Deep.DeepCutAuto
import Derived.Maps.AppendAt
namespace Go.Proofs.Ythmngnfdfelkeaa
open Go.RowKit
attribute [local go_sem ↓] max_int min_int

theorem rwithin_any (n lo hi : Int) (w : World) : Calls Try.prog 70 #[.int .i64 n, .int .i64 lo, .int .i64 hi] w fun e w' => e = .returned (.bool (inB n lo hi)) ∧ w = w' := by
  go_enter Try.func70, Try.ntmps70
  go_wp2
  all_goals
    go_ret
    exact ⟨ret_bool (by simp [inB]; try omega), rfl⟩

theorem redOk_not {hs cs : List Int} {tol : Int} (h : (∃ k, k < cs.length ∧ badC hs cs k = true) ∨ (∃ k, k < hs.length ∧ inB (hs.getD k 0) (-1000000000) 1000000000 = false) ∨ cs.length = 0 ∨ inB tol 0 1000000000 = false) : redR hs cs tol = ([], 1) := by
  have e : redOk hs cs tol = false := by
    cases hr : redOk hs cs tol
    · rfl
    · exfalso
      have hh := hr
      simp only [redOk, Bool.and_eq_true, List.all_eq_true, List.mem_range, flatB] at hr
      obtain ⟨h1, h2, h3, h4⟩ := hr
      rcases h with ⟨k, hk, hb⟩ | ⟨k, hk, hb⟩ | hb | hb
      · have := h1 k hk; rw [hb] at this; cases this
      · have := h2 _ (getD_mem 0 hk); rw [hb] at this; cases this
      · rw [List.eq_nil_of_length_eq_zero hb] at h3; cases h3
      · rw [hb] at h4; cases h4
  simp [redR, e]
theorem redOk_mk {hs cs : List Int} {tol : Int} (h1 : ∀ k, k < cs.length → badC hs cs k = false) (h2 : ∀ k, k < hs.length → inB (hs.getD k 0) (-1000000000) 1000000000 = true) (h3 : 0 < cs.length) (h4 : inB tol 0 1000000000 = true) : redOk hs cs tol = true := by
  simp only [redOk, Bool.and_eq_true, List.all_eq_true, List.mem_range, flatB]
  refine ⟨fun k hk => by rw [h1 k hk]; rfl, fun x hx => ?_, ?_, h4⟩
  · obtain ⟨k, hk, rfl⟩ := List.getElem_of_mem hx
    have := h2 k hk
    rwa [getD_get _ _ hk] at this
  · cases cs <;> simp at h3 ⊢

set_option maxRecDepth 100000 in
set_option maxHeartbeats 8000000 in
theorem rred_any (A1 A2 : Option Addr) (c1 c2 : Nat) (hs cs : List Int) (tol : Int) (w : World) (h1 : RowAt w A1 (intCells hs)) (h2 : RowAt w A2 (intCells cs)) (n1 : hs.length ≤ 100000) (n2 : cs.length ≤ 100000) :
    Calls Try.prog 26 #[.slice A1 hs.length c1, .slice A2 cs.length c2, .int .i64 tol] w fun e w' => ∃ v, e = .returned (.tuple #[v, .int .i64 (redR hs cs tol).2]) ∧ w'.ownsRow w.heap.size 4 1 v (redR hs cs tol).1.length (boolCells (redR hs cs tol).1) ∧ Below w.heap.size w w' := by
  have hB := Below.refl w.heap.size w
  have HW := fun (n lo hi : Int) (W : World) => rwithin_any n lo hi W
  by_cases hne : 0 < cs.length
  · have hce : ((cs.length : Int) == 0) = false := by simp; intro h; simp [h] at hne
    cases ht : inB tol 0 1000000000
    · have HR := Lib.hid (redOk_not (hs := hs) (cs := cs) (tol := tol) (.inr (.inr (.inr ht))))
      have HT := Lib.hid ht
      clear ht
      go_enter Try.func26, Try.ntmps26
      go_wp2_with (go_at_call 70; refine (HW _ _ _ _).mono ?_; rw [HT.out]; rintro e w1 ⟨rfl, rfl⟩)
      go_ret2
      exact ⟨.slice none 0 0, by rw [HR.out]; rfl, by rw [HR.out]; exact World.ownsRow_nil _ _ _ _, hB⟩
    · have HT := Lib.hid ht
      have ht2 : 0 ≤ tol ∧ tol ≤ 1000000000 := by simpa [inB] using ht
      clear ht
      go_enter Try.func26, Try.ntmps26
      go_upto_region 4 with (go_at_call 70; refine (HW _ _ _ _).mono ?_; rw [HT.out]; rintro e w1 ⟨rfl, rfl⟩)
      go_loopw [8] (fun i wr => ∃ k : Nat, k ≤ hs.length ∧ i = .int .i64 k ∧ Hid (∀ j, j < k → inB (hs.getD j 0) (-1000000000) 1000000000 = true) ∧ w = wr) (fun i _ => hs.length - (intOf i).toNat)
      case atStart => exact ⟨0, Nat.zero_le _, rfl, fun j hj => by omega, rfl⟩
      case round =>
        obtain ⟨k, hk, rfl, HG, rfl⟩ := hrel
        by_cases hlt : k < hs.length
        · have hkI : (k : Int) < hs.length := by omega
          obtain ⟨b3, o3, rfl, hb3, hc3⟩ := h1.intD (by omega)
          have d3 := hc3 k hlt
          have HBAD : Hid (inB (hs.getD k 0) (-1000000000) 1000000000 = false → redR hs cs tol = ([], 1)) := fun h => redOk_not (.inr (.inl ⟨k, hlt, h⟩))
          have HGK : Hid (inB (hs.getD k 0) (-1000000000) 1000000000 = true → ∀ j, j < k + 1 → inB (hs.getD j 0) (-1000000000) 1000000000 = true) := fun h j hj => by
            by_cases e : j = k
            · rw [e]; exact h
            · exact HG.out j (by omega)
          clear hc3 HG
          generalize hs.getD k 0 = x at *
          cases hx : inB x (-1000000000) 1000000000
          · have HR := Lib.hid (HBAD.out hx)
            have HX := Lib.hid hx
            clear hx HBAD HGK
            go_wp2_with (go_at_call 70; refine (HW _ _ _ _).mono ?_; rw [HX.out]; rintro e w1 ⟨rfl, rfl⟩)
            go_ret2
            exact ⟨.slice none 0 0, by rw [HR.out]; rfl, by rw [HR.out]; exact World.ownsRow_nil _ _ _ _, hB⟩
          · have HX := Lib.hid hx
            have HGK2 := Lib.hid (HGK.out hx)
            clear hx HBAD HGK
            go_wp2_with (go_at_call 70; refine (HW _ _ _ _).mono ?_; rw [HX.out]; rintro e w1 ⟨rfl, rfl⟩)
            go_roundw
            case rel => exact ⟨k + 1, by omega, by go_num, HGK2, trivial⟩
            case measure => simp [intOf]; omega
        · obtain rfl : k = hs.length := by omega
          obtain ⟨j0, hj0, jz0, jz1, jz2⟩ := info_parts boolInfo
          have bb2 : j0.bytes * hs.length ≤ 281474976710656 := by rw [jz2]; omega
          have bb3 : hs.length ≤ maxLen := by unfold maxLen; omega
          clear hk hlt
          go_upto_region 10 with (first | (at_make; refine (wpList_make_full _ rfl _ _ 37 rfl w.heap.size 4 j0 _ 1 Try.underlying37 hj0 jz0 jz1 .i64 .i64 _ _ hs.length rfl rfl rfl rfl bb2 bb3 (Nat.le_refl _) ?_); intro w1 hown hgr))
          have hrow0 : (madeCells (Value.bool false).cells (hs.length * 1)).toList = boolCells (List.replicate hs.length false) := by
            rw [Nat.mul_one]
            show (madeCells #[Value.bool false] hs.length).toList = _
            rw [toList_madeCells_one]
            simp [boolCells]
          rw [hrow0] at hown
          have hB1 : Below w.heap.size w w1 := (Below.refl _ _).grown hgr (Nat.le_refl _) (fun r e => by cases e)
          clear hrow0 hgr bb2 bb3 hB
          go_loopw [10] (fun i wr => ∃ k : Nat, k ≤ cs.length ∧ i = .int .i64 k ∧ Hid (∀ j, j < k → badC hs cs j = false) ∧ (∃ bl : List Bool, bl.length = hs.length ∧ wr.ownsRow w.heap.size 4 1 (.slice (some ⟨w.heap.size, 0, none⟩) hs.length hs.length) hs.length (boolCells bl) ∧ Hid (∀ x, x < hs.length → bl.getD x false = decide ((x : Int) ∈ cs.take k))) ∧ Below w.heap.size w wr) (fun i _ => cs.length - (intOf i).toNat)
          case atStart => exact ⟨0, Nat.zero_le _, rfl, fun j hj => by omega, ⟨_, by simp, hown, fun x hx => by simp [List.getD_eq_getElem?_getD, hx]⟩, hB1⟩
          case round =>
            clear hown hB1
            obtain ⟨k, hk, rfl, HB, ⟨bl, hbl, hown, HS⟩, hB⟩ := hrel
            by_cases hlt : k < cs.length
            · have hkI : (k : Int) < cs.length := by omega
              obtain ⟨b3, o3, rfl, hb3, hc3⟩ := (h2.below hB).intD (by omega)
              have d3 := hc3 k hlt
              have HBAD : Hid (badC hs cs k = (decide (cs.getD k 0 < 0) || (decide ((hs.length : Int) ≤ cs.getD k 0) || decide (cs.getD k 0 ∈ cs.take k)))) := rfl
              have HRET : Hid (badC hs cs k = true → redR hs cs tol = ([], 1)) := fun h => redOk_not (.inl ⟨k, hlt, h⟩)
              have HNX : Hid (cs.take (k + 1) = cs.take k ++ [cs.getD k 0]) := by
                refine Lib.hid ?_
                rw [List.take_add_one, List.getElem?_eq_getElem hlt, getD_get _ _ hlt]
                rfl
              clear hc3
              generalize cs.getD k 0 = c at *
              generalize cs.take k = tk at *
              cases hin : inB c 0 ((hs.length : Int) - 1)
              · have hin2 : ¬ (0 ≤ c ∧ c ≤ (hs.length : Int) - 1) := by simpa [inB] using hin
                have HR := Lib.hid (HRET.out (by rw [HBAD.out]; simp; omega))
                have HX := Lib.hid hin
                clear hin hin2 HRET HBAD HNX hown
                go_wp2_with (go_at_call 70; refine (HW _ _ _ _).mono ?_; rw [HX.out]; rintro e w1 ⟨rfl, rfl⟩)
                go_ret2
                exact ⟨.slice none 0 0, by rw [HR.out]; rfl, by rw [HR.out]; exact World.ownsRow_nil _ _ _ _, hB⟩
              · have hin2 : 0 ≤ c ∧ c ≤ (hs.length : Int) - 1 := by simpa [inB] using hin
                have HX := Lib.hid hin
                obtain ⟨x, rfl⟩ : ∃ x : Nat, c = x := ⟨c.toNat, by omega⟩
                have hxI : (x : Int) < hs.length := by omega
                have hc := bool_at hown hbl x (by omega)
                have hfz := hown.frozenAt x
                rw [HS.out x (by omega)] at hc
                by_cases hmem : (x : Int) ∈ tk
                · have HR := Lib.hid (HRET.out (by rw [HBAD.out]; simp [hmem]))
                  rw [decide_eq_true hmem] at hc
                  clear hin HRET HBAD HNX hown hmem
                  go_wp2_with (go_at_call 70; refine (HW _ _ _ _).mono ?_; rw [HX.out]; rintro e w1 ⟨rfl, rfl⟩)
                  go_ret2
                  exact ⟨.slice none 0 0, by rw [HR.out]; rfl, by rw [HR.out]; exact World.ownsRow_nil _ _ _ _, hB⟩
                · rw [decide_eq_false hmem] at hc
                  have hb : badC hs cs k = false := by rw [HBAD.out]; simp [hmem]; omega
                  have HB2 : Hid (∀ j, j < k + 1 → badC hs cs j = false) := fun j hj => by
                    by_cases e : j = k
                    · rw [e]; exact hb
                    · exact HB.out j (by omega)
                  have HO := Lib.hid hown
                  have HS2 : Hid (∀ y, y < hs.length → (bl.set x true).getD y false = decide ((y : Int) ∈ cs.take (k + 1))) := fun y hy => by
                    rw [getD_set_true (by omega), HNX.out]
                    by_cases e : x = y
                    · subst e; simp
                    · rw [if_neg e, HS.out y hy]
                      have : ¬ (y : Int) = x := by omega
                      simp [this]
                  clear hin HRET HBAD HB hown hmem hb HS HNX
                  go_wp2_with (go_at_call 70; refine (HW _ _ _ _).mono ?_; rw [HX.out]; rintro e w1 ⟨rfl, rfl⟩)
                  have ho3 := HO.out.stored x (.bool true)
                  rw [boolCells_set] at ho3
                  go_roundw
                  case rel => exact ⟨k + 1, by omega, by go_num, HB2, ⟨_, by simp [hbl], ho3.1, HS2⟩, hB.setCell (by simp <;> omega) _⟩
                  case measure => simp [intOf]; omega
            · obtain rfl : k = cs.length := by omega
              obtain ⟨w5, rfl⟩ : ∃ x, x = wr := ⟨wr, rfl⟩
              have hgood : ∀ i, i < cs.length → 0 ≤ cs.getD i 0 ∧ cs.getD i 0 < hs.length := fun i hi => by
                have := HB.out i hi
                simp only [badC, Bool.or_eq_false_iff, decide_eq_false_iff_not] at this
                omega
              have hok : redOk hs cs tol = true := redOk_mk HB.out HG.out hne HT.out
              have HR : Hid (redR hs cs tol = (redL hs cs tol cs.length, 0)) := by refine Lib.hid ?_; simp [redR, hok]
              have hhs : ∀ x ∈ hs, -1000000000 ≤ x ∧ x ≤ 1000000000 := fun x hx => by
                obtain ⟨k, hk, rfl⟩ := List.getElem_of_mem hx
                have := HG.out k hk
                rw [getD_get _ _ hk] at this
                simpa [inB] using this
              have hg0 := hgood 0 hne
              obtain ⟨b1, o1, rfl, hb1, hc1⟩ := (h1.below hB).intD (by omega)
              obtain ⟨b2, o2, rfl, hb2, hc2⟩ := (h2.below hB).intD hne
              have HHS := Lib.hid hhs
              have HGG := Lib.hid hgood
              have HC := Lib.hid (And.intro hc1 hc2)
              have d1 := hc2 0 hne
              have d2 := hc1 (cs.getD 0 0).toNat (by omega)
              have HF0 : Hid (mostF (fun i => hs.getD (cs.getD i 0).toNat 0) 0 = hs.getD (cs.getD 0 0).toNat 0) := rfl
              have hneI : (0 : Int) < cs.length := by omega
              clear hok HB HG HS hown hhs hgood hc1 hc2 hk hlt
              generalize hF : hs.getD (cs.getD 0 0).toNat 0 = f0 at *
              have HF := Lib.hid hF
              clear hF
              generalize cs.getD 0 0 = p0 at *
              obtain ⟨pn, rfl⟩ : ∃ pn : Nat, p0 = pn := ⟨p0.toNat, by omega⟩
              rw [Int.toNat_natCast] at d2
              simp only [Nat.add_zero] at d1
              go_upto_region 17 with fail
              clear d1 d2 hg0
              go_loopw [11, 12] (fun out i wx => ∃ k : Nat, k ≤ cs.length ∧ i = .int .i64 k ∧ out = .int .i64 (mostF (fun i => hs.getD (cs.getD i 0).toNat 0) k) ∧ w5 = wx) (fun _ i _ => cs.length - (intOf i).toNat)
              case atStart => exact ⟨0, Nat.zero_le _, rfl, by rw [HF0.out], rfl⟩
              case round =>
                obtain ⟨k, hk, rfl, rfl, rfl⟩ := hrel
                by_cases hlt : k < cs.length
                · have hkI : (k : Int) < cs.length := by omega
                  have hg := HGG.out k hlt
                  have d1 := HC.out.2 k hlt
                  have d2 := HC.out.1 (cs.getD k 0).toNat (by omega)
                  have HS : Hid (mostF (fun i => hs.getD (cs.getD i 0).toNat 0) (k + 1) = max (mostF (fun i => hs.getD (cs.getD i 0).toNat 0) k) (hs.getD (cs.getD k 0).toNat 0)) := rfl
                  generalize mostF (fun i => hs.getD (cs.getD i 0).toNat 0) k = m at *
                  generalize hs.getD (cs.getD k 0).toNat 0 = f at *
                  generalize cs.getD k 0 = p at *
                  obtain ⟨pn, rfl⟩ : ∃ pn : Nat, p = pn := ⟨p.toNat, by omega⟩
                  rw [Int.toNat_natCast] at d2
                  go_wp2_with fail
                  go_roundw
                  case rel => exact ⟨k + 1, by omega, by go_num, by rw [HS.out], trivial⟩
                  case measure => simp [intOf]; omega
                · obtain rfl : k = cs.length := by omega
                  have hbd : -1000000000 ≤ redTop hs cs ∧ redTop hs cs ≤ 1000000000 := by
                    unfold redTop
                    refine most_bound cs.length (fun i hi => HHS.out _ (getD_mem 0 ?_)) hne
                    have := HGG.out i hi
                    omega
                  rw [show mostF (fun i => hs.getD (cs.getD i 0).toNat 0) cs.length = redTop hs cs from rfl]
                  have HTL : Hid (∀ k, redL hs cs tol (k + 1) = redL hs cs tol k ++ [decide (redTop hs cs - tol ≤ hs.getD (cs.getD k 0).toNat 0)]) := fun k => by
                    unfold redL
                    rw [List.range_succ, List.map_append]
                    rfl
                  generalize redTop hs cs = top at *
                  clear hlt hk
                  go_upto_region 22 with fail
                  go_loopw [13, 14] (fun out i wx => ∃ k : Nat, k ≤ cs.length ∧ i = .int .i64 k ∧ (∃ A c, out = .slice A k c ∧ wx.ownsRow w5.heap.size 4 1 (.slice A k c) k (boolCells (redL hs cs tol k))) ∧ Below w5.heap.size w5 wx) (fun _ i _ => cs.length - (intOf i).toNat)
                  case atStart => exact ⟨0, Nat.zero_le _, rfl, ⟨none, 0, rfl, World.ownsRow_nil _ _ _ _⟩, Below.refl _ _⟩
                  case round =>
                    obtain ⟨k, hk, rfl, ⟨A, c, rfl, ho⟩, hB5⟩ := hrel
                    by_cases hlt : k < cs.length
                    · have hkI : (k : Int) < cs.length := by omega
                      obtain ⟨g0, g1⟩ := HGG.out k hlt
                      have HN := Lib.hid (HTL.out k)
                      have hx1 := HHS.out (hs.getD (cs.getD k 0).toNat 0) (getD_mem 0 (by omega))
                      have d3 := (hB5.cell (p := ⟨b2, o2 + k, none⟩) hb2).trans (HC.out.2 k hlt)
                      have d4 := (hB5.cell (p := ⟨b1, o1 + (cs.getD k 0).toNat, none⟩) hb1).trans (HC.out.1 (cs.getD k 0).toNat (by omega))
                      generalize hcc : cs.getD k 0 = v at *
                      obtain ⟨cc, rfl⟩ : ∃ cc : Nat, v = cc := ⟨v.toNat, by omega⟩
                      rw [Int.toNat_natCast] at *
                      generalize hs.getD cc 0 = x at *
                      have HO := Lib.hid (And.intro ho hB5)
                      have EE : Hid (k + 1 ≤ maxLen ∧ (k + 1) * 1 ≤ 140737488355328) := ⟨by unfold maxLen; omega, by omega⟩
                      clear ho hcc hB5
                      obtain ⟨bb, hbb⟩ : ∃ bb, decide (top - tol ≤ x) = bb := ⟨_, rfl⟩
                      rw [hbb] at HN
                      have hgoal : ∀ (wq : World) (v' : Value), wq.ownsRow w5.heap.size 4 1 v' (k + 1) (boolCells (redL hs cs tol k) ++ [.bool bb]) → wq.ownsRow w5.heap.size 4 1 v' (k + 1) (boolCells (redL hs cs tol (k + 1))) := fun wq v' h => by
                        rw [HN.out]
                        simpa [boolCells] using h
                      have HGO := Lib.hid hgoal
                      clear hgoal HN
                      have hzz := HO.out.2.size
                      cases bb
                      · have hno : ¬ top - tol ≤ x := of_decide_eq_false hbb
                        clear hbb
                        go_wp2_with (at_builtin; refine (wpList_append_own_at _ rfl _ _ 37 rfl w5.heap.size 4 j0 _ 1 1 Try.underlying37 hj0 jz0 jz1 jz2 rfl (by decide) _ _ _ rfl (HO.out.1.alloc _) ⟨wr.heap.size, 0, none⟩ 1 1 [.bool false] rfl rfl (cell_one_new _ _ _) (by simp [Value.oneCell']) EE.out.1 EE.out.2 (by simp; omega) ?_); intro v' w7 hown' hg5 _ _; have hown6 := HGO.out _ _ hown'; obtain ⟨A', c', rfl, _, _, _⟩ := own_form hown6)
                        go_roundw
                        case rel => exact ⟨k + 1, by omega, by go_num, ⟨_, _, by first | rfl | (simp; done), hown6⟩, (HO.out.2.alloc hzz _).grown hg5 (by simp; omega) (fun r e => by have := (HO.out.1.lt r e).1; omega)⟩
                        case measure => simp [intOf]; omega
                      · have hno : top - tol ≤ x := of_decide_eq_true hbb
                        clear hbb
                        go_wp2_with (at_builtin; refine (wpList_append_own_at _ rfl _ _ 37 rfl w5.heap.size 4 j0 _ 1 1 Try.underlying37 hj0 jz0 jz1 jz2 rfl (by decide) _ _ _ rfl (HO.out.1.alloc _) ⟨wr.heap.size, 0, none⟩ 1 1 [.bool true] rfl rfl (cell_one_new _ _ _) (by simp [Value.oneCell']) EE.out.1 EE.out.2 (by simp; omega) ?_); intro v' w7 hown' hg5 _ _; have hown6 := HGO.out _ _ hown'; obtain ⟨A', c', rfl, _, _, _⟩ := own_form hown6)
                        go_roundw
                        case rel => exact ⟨k + 1, by omega, by go_num, ⟨_, _, by first | rfl | (simp; done), hown6⟩, (HO.out.2.alloc hzz _).grown hg5 (by simp; omega) (fun r e => by have := (HO.out.1.lt r e).1; omega)⟩
                        case measure => simp [intOf]; omega
                    · obtain rfl : k = cs.length := by omega
                      go_wp2_with fail
                      go_ret2
                      exact ⟨_, by rw [HR.out]; rfl, by rw [HR.out]; simpa [redL] using own_base ho hB.size, hB.trans (hB5.mono hB.size)⟩
  · have he : cs.length = 0 := by omega
    have hce : ((cs.length : Int) == 0) = true := by simp [he]
    have HR := Lib.hid (redOk_not (hs := hs) (cs := cs) (tol := tol) (.inr (.inr (.inl he))))
    clear he hne
    go_enter Try.func26, Try.ntmps26
    go_wp2_with fail
    go_ret2
    exact ⟨.slice none 0 0, by rw [HR.out]; rfl, by rw [HR.out]; exact World.ownsRow_nil _ _ _ _, hB⟩

end Go.Proofs.Ythmngnfdfelkeaa
