/-
  What is proved: the contract of the reference's Check.
-/
import Derived.Test.YthmngnfdfelkeaaMg20
namespace Go.Proofs.Ythmngnfdfelkeaa
open Go.RowKit
attribute [local go_sem ↓] max_int min_int

theorem scan_allG {α : Type} {p : α → Bool} {l : List α} (d : α) (h : ∀ j, j < l.length → p (l.getD j d) = true) : l.all p = true := by
  rw [List.all_eq_true]
  intro x hx
  obtain ⟨k, hk, rfl⟩ := List.getElem_of_mem hx
  have := h k hk
  rwa [getD_get _ _ hk] at this
theorem scan_notG {α : Type} {p : α → Bool} {l : List α} (d : α) {j : Nat} (hj : j < l.length) (h : p (l.getD j d) = false) : l.all p = false := by
  rw [List.all_eq_false]
  exact ⟨_, getD_mem d hj, fun e => by rw [h] at e; cases e⟩

/-- T1's error. -/
def checkE (s : Stn) : Int := if s.ok then 0 else 60
theorem check_bad {s : Stn} (h : s.ok = false) : checkE s = 60 := by simp [checkE, h]

set_option maxRecDepth 100000 in
set_option maxHeartbeats 8000000 in
theorem rcheck_any (s : Stn) (z : Loc) (w : World) (hs : StAt w s z) : Calls Try.prog 51 #[s.val z] w fun e w' => e = .returned (.int .i64 (checkE s)) ∧ Below w.heap.size w w' := by
  have n2 := hs.n2
  have n3 := hs.n3
  have n4 := hs.n4
  have HV : Hid (∀ W, Below w.heap.size w W → Calls Try.prog 100 #[.agg #[.int .i64 s.f.eye, .int .i64 s.f.rings, .int .i64 s.f.sec, .slice z.a1 s.f.kinds.length z.c1]] W fun e w' => e = .returned (.bool s.f.ok) ∧ Below W.heap.size W w') := fun W h => rvalid_any s.f z.a1 z.c1 W (hs.below h).kinds hs.n1
  have HH : Hid (∀ W, Below w.heap.size w W → Calls Try.prog 101 #[.agg #[.int .i64 s.f.eye, .int .i64 s.f.rings, .int .i64 s.f.sec, .slice z.a1 s.f.kinds.length z.c1], .slice z.a2 s.heights.length z.c2] W fun e w' => e = .returned (.bool (s.heights.length == s.f.kinds.length && flatB 100000 s.heights)) ∧ Below W.heap.size W w') := fun W h => rheights_any s.f z.a1 z.a2 z.c1 z.c2 s.heights W (hs.below h).heights hs.n2 hs.n1
  have HW := fun (n lo hi : Int) (W : World) => rwith_any n lo hi W
  obtain ⟨X, hs1, hB⟩ := box_stn hs
  unfold Stn.val Stn.cells
  go_enter Try.func51, Try.ntmps51
  go_upto_region 1 with fail
  generalize w.alloc (.cells _ 28) = V at *
  obtain ⟨v1, e1⟩ : ∃ v, s.f.ok = v := ⟨_, rfl⟩
  obtain ⟨v2, e2⟩ : ∃ v, (s.heights.length == s.f.kinds.length && flatB 100000 s.heights) = v := ⟨_, rfl⟩
  obtain ⟨v3, e3⟩ : ∃ v, inB s.tol 0 1000000000000 = v := ⟨_, rfl⟩
  have HE := Lib.hid (And.intro e1 (And.intro e2 e3))
  rw [e1] at HV
  rw [e2] at HH
  have x := stn_cell0 X
  obtain ⟨x0, x1, x2, x3, x4, x5, x6, x7⟩ := x
  have xl := X.lt
  clear e1 e2 e3
  cases v1
  · go_wp2_with (go_at_call 100; refine (HV.out _ hB).mono ?_; rintro e w1 ⟨rfl, hb1⟩)
    go_ret
    exact ⟨by rw [check_bad (by simp [Stn.ok, HE.out.1])]; rfl, hB.trans (hb1.mono hB.size)⟩
  · cases v2
    · go_wp2_with (first | (go_at_call 100; refine (HV.out _ hB).mono ?_; rintro e w1 ⟨rfl, hb1⟩; have X1 := X.keep hb1; have hB1 := hB.trans (hb1.mono hB.size); obtain ⟨y0, y1, y2, y3, y4, y5, y6, y7⟩ := stn_cell0 X1; have yl := X1.lt) | (go_at_call 101; refine (HH.out _ hB1).mono ?_; rintro e w2 ⟨rfl, hb2⟩; have X2 := X1.keep hb2; have hB2 := hB1.trans (hb2.mono hB1.size); obtain ⟨p0, p1, p2, p3, p4, p5, p6, p7⟩ := stn_cell0 X2; have pl := X2.lt))
      go_ret
      exact ⟨by rw [check_bad (by rw [Stn.ok, HE.out.1, Bool.true_and, HE.out.2.1]; rfl)]; rfl, hB2⟩
    · by_cases hc : (s.compass.length : Int) = s.f.sec
      · have hq : ((s.compass.length : Int) != s.f.sec) = false := by simp [hc]
        have HC : Hid (((s.compass.length : Int) == s.f.sec) = true) := by simpa [Hid] using hc
        clear hc
        by_cases hp : s.pockets.length ≤ 8
        · have hpI : (s.pockets.length : Int) ≤ 8 := by omega
          cases v3
          · go_wp2_with (first | (go_at_call 100; refine (HV.out _ hB).mono ?_; rintro e w1 ⟨rfl, hb1⟩; have X1 := X.keep hb1; have hB1 := hB.trans (hb1.mono hB.size); obtain ⟨y0, y1, y2, y3, y4, y5, y6, y7⟩ := stn_cell0 X1; have yl := X1.lt) | (go_at_call 101; refine (HH.out _ hB1).mono ?_; rintro e w2 ⟨rfl, hb2⟩; have X2 := X1.keep hb2; have hB2 := hB1.trans (hb2.mono hB1.size); obtain ⟨p0, p1, p2, p3, p4, p5, p6, p7⟩ := stn_cell0 X2; have pl := X2.lt) | (go_at_call 70; refine (HW _ _ _ _).mono ?_; rw [HE.out.2.2]; rintro e w3 ⟨rfl, rfl⟩))
            go_ret
            exact ⟨by rw [check_bad (by simp [Stn.ok, HE.out.2.2])]; rfl, hB2⟩
          · have HO : Hid (s.ok = ((s.compass.all fun p => inB p.1 (-1000) 1000 && inB p.2 (-1000) 1000) && (s.pockets.all fun p => inB p.1.1 (-1000000) 1000000 && inB p.1.2 (-1000000) 1000000 && inB p.2 0 255))) := by
              refine Lib.hid ?_
              rw [Stn.ok, HE.out.1, Bool.true_and, HE.out.2.1, HC.out, decide_eq_true hp, HE.out.2.2]
              simp
            go_upto_region 4 with (first | (go_at_call 100; refine (HV.out _ hB).mono ?_; rintro e w1 ⟨rfl, hb1⟩; have X1 := X.keep hb1; have hB1 := hB.trans (hb1.mono hB.size); obtain ⟨y0, y1, y2, y3, y4, y5, y6, y7⟩ := stn_cell0 X1; have yl := X1.lt) | (go_at_call 101; refine (HH.out _ hB1).mono ?_; rintro e w2 ⟨rfl, hb2⟩; have X2 := X1.keep hb2; have hB2 := hB1.trans (hb2.mono hB1.size); obtain ⟨p0, p1, p2, p3, p4, p5, p6, p7⟩ := stn_cell0 X2; have pl := X2.lt) | (go_at_call 70; refine (HW _ _ _ _).mono ?_; rw [HE.out.2.2]; rintro e w3 ⟨rfl, rfl⟩))
            have hs2 := hs.below hB2
            clear x0 x1 x2 x3 x4 x5 x6 x7 xl y0 y1 y2 y3 y4 y5 y6 y7 yl X X1 hb1 hb2 hB hB1 HV HH HE hq HC
            go_loopw [3] (fun i wr => ∃ k : Nat, k ≤ s.compass.length ∧ i = .int .i64 k ∧ Hid (∀ j, j < k → (fun p : Int × Int => inB p.1 (-1000) 1000 && inB p.2 (-1000) 1000) (s.compass.getD j (0, 0)) = true) ∧ Bk wr w.heap.size 28 (s.cells z) ∧ Below w.heap.size w wr) (fun i _ => s.compass.length - (intOf i).toNat)
            case atStart => exact ⟨0, Nat.zero_le _, rfl, fun j hj => by omega, X2, hB2⟩
            case round =>
              clear X2 hB2 p0 p1 p2 p3 p4 p5 p6 p7 pl hs2
              obtain ⟨k, hk, rfl, HG, X2, hB2⟩ := hrel
              obtain ⟨p0, p1, p2, p3, p4, p5, p6, p7⟩ := stn_cell0 X2
              have hs2 := hs.below hB2
              by_cases hlt : k < s.compass.length
              · have hkI : (k : Int) < s.compass.length := by omega
                obtain ⟨b3, o3, ha3, hb3, hc3⟩ := hs2.compass.pt (by omega)
                obtain ⟨d3, d4⟩ := hc3 k hlt
                rw [ha3] at p5
                have HBAD : Hid ((inB (s.compass.getD k (0, 0)).1 (-1000) 1000 && inB (s.compass.getD k (0, 0)).2 (-1000) 1000) = false → checkE s = 60) := fun h => check_bad (by rw [HO.out, scan_notG (0, 0) hlt h]; rfl)
                have HGK : Hid ((inB (s.compass.getD k (0, 0)).1 (-1000) 1000 && inB (s.compass.getD k (0, 0)).2 (-1000) 1000) = true → ∀ j, j < k + 1 → (fun p : Int × Int => inB p.1 (-1000) 1000 && inB p.2 (-1000) 1000) (s.compass.getD j (0, 0)) = true) := fun h j hj => by
                  by_cases e : j = k
                  · rw [e]; exact h
                  · exact HG.out j (by omega)
                clear hc3 HG ha3
                generalize s.compass.getD k (0, 0) = pt at *
                obtain ⟨px, py⟩ := pt
                simp only at d3 d4 HBAD HGK
                have HP := rpoint_any px py 1000 wr (by omega)
                cases hx : inB px (-1000) 1000 && inB py (-1000) 1000
                · have HR := Lib.hid (HBAD.out hx)
                  rw [hx] at HP
                  have HPP := Lib.hid HP
                  clear hx HBAD HGK HP
                  go_wp2_with (go_at_call 102; refine (HPP.out).mono ?_; rintro e w3 ⟨rfl, hb3⟩)
                  go_ret
                  exact ⟨by rw [HR.out]; rfl, hB2.trans (hb3.mono hB2.size)⟩
                · have HGK2 := Lib.hid (HGK.out hx)
                  rw [hx] at HP
                  have HPP := Lib.hid HP
                  clear hx HBAD HGK HP
                  go_wp2_with (go_at_call 102; refine (HPP.out).mono ?_; rintro e w3 ⟨rfl, hb3⟩)
                  go_roundw
                  case rel => exact ⟨k + 1, by omega, by go_num, HGK2, X2.keep hb3, hB2.trans (hb3.mono hB2.size)⟩
                  case measure => simp [intOf]; omega
              · obtain rfl : k = s.compass.length := by omega
                have HO2 : Hid (s.ok = (s.pockets.all fun p => inB p.1.1 (-1000000) 1000000 && inB p.1.2 (-1000000) 1000000 && inB p.2 0 255)) := by
                  refine Lib.hid ?_
                  rw [HO.out, scan_allG (0, 0) HG.out, Bool.true_and]
                clear HO HG hk hlt
                go_upto_region 9 with fail
                clear p0 p1 p2 p3 p4 p5 p6 p7
                go_loopw [4] (fun i wr => ∃ k : Nat, k ≤ s.pockets.length ∧ i = .int .i64 k ∧ Hid (∀ j, j < k → (fun p : (Int × Int) × Int => inB p.1.1 (-1000000) 1000000 && inB p.1.2 (-1000000) 1000000 && inB p.2 0 255) (s.pockets.getD j ((0, 0), 0)) = true) ∧ Bk wr w.heap.size 28 (s.cells z) ∧ Below w.heap.size w wr) (fun i _ => s.pockets.length - (intOf i).toNat)
                case atStart => exact ⟨0, Nat.zero_le _, rfl, fun j hj => by omega, X2, hB2⟩
                case round =>
                  clear X2 hB2 hs2
                  obtain ⟨k, hk, rfl, HG, X2, hB2⟩ := hrel
                  obtain ⟨p0, p1, p2, p3, p4, p5, p6, p7⟩ := stn_cell0 X2
                  have hs2 := hs.below hB2
                  by_cases hlt : k < s.pockets.length
                  · have hkI : (k : Int) < s.pockets.length := by omega
                    obtain ⟨b3, o3, ha3, hb3, hc3⟩ := hs2.pockets.pk (by omega)
                    obtain ⟨d3, d4, d5⟩ := hc3 k hlt
                    rw [ha3] at p6
                    have HBAD : Hid ((inB (s.pockets.getD k ((0, 0), 0)).1.1 (-1000000) 1000000 && inB (s.pockets.getD k ((0, 0), 0)).1.2 (-1000000) 1000000 && inB (s.pockets.getD k ((0, 0), 0)).2 0 255) = false → checkE s = 60) := fun h => check_bad (by rw [HO2.out, scan_notG ((0, 0), 0) hlt h])
                    have HGK : Hid ((inB (s.pockets.getD k ((0, 0), 0)).1.1 (-1000000) 1000000 && inB (s.pockets.getD k ((0, 0), 0)).1.2 (-1000000) 1000000 && inB (s.pockets.getD k ((0, 0), 0)).2 0 255) = true → ∀ j, j < k + 1 → (fun p : (Int × Int) × Int => inB p.1.1 (-1000000) 1000000 && inB p.1.2 (-1000000) 1000000 && inB p.2 0 255) (s.pockets.getD j ((0, 0), 0)) = true) := fun h j hj => by
                      by_cases e : j = k
                      · rw [e]; exact h
                      · exact HG.out j (by omega)
                    have ha3' := Lib.hid ha3
                    clear hc3 HG ha3
                    generalize s.pockets.getD k ((0, 0), 0) = pt at *
                    obtain ⟨⟨px, py⟩, pm⟩ := pt
                    simp only at d3 d4 d5 HBAD HGK
                    have HP := rpoint_any px py 1000000 wr (by omega)
                    cases hx : inB px (-1000000) 1000000 && inB py (-1000000) 1000000
                    · rw [hx] at HBAD HP
                      have HR := Lib.hid (HBAD.out rfl)
                      have HPP := Lib.hid HP
                      clear hx HBAD HGK HP
                      go_wp2_with (go_at_call 102; refine (HPP.out).mono ?_; rintro e w3 ⟨rfl, hb3⟩)
                      go_ret
                      exact ⟨by rw [HR.out]; rfl, hB2.trans (hb3.mono hB2.size)⟩
                    · rw [hx] at HP HBAD HGK
                      have HPP := Lib.hid HP
                      have pl := X2.lt
                      cases hy : inB pm 0 255
                      · rw [hy] at HBAD
                        have HR := Lib.hid (HBAD.out rfl)
                        have HY := Lib.hid hy
                        clear hx hy HBAD HGK HP
                        go_wp2_with (first | (go_at_call 102; refine (HPP.out).mono ?_; rintro e w3 ⟨rfl, hb4⟩; obtain ⟨q0, q1, q2, q3, q4, q5, q6, q7⟩ := stn_cell0 (X2.keep hb4); rw [ha3'.out] at q6; have d6 := keepc hb4 d5) | (go_at_call 70; refine (HW _ _ _ _).mono ?_; rw [HY.out]; rintro e w4 ⟨rfl, rfl⟩))
                        go_ret
                        exact ⟨by rw [HR.out]; rfl, hB2.trans (hb4.mono hB2.size)⟩
                      · rw [hy] at HGK
                        have HGK2 := Lib.hid (HGK.out rfl)
                        have HY := Lib.hid hy
                        clear hx hy HBAD HGK HP
                        go_wp2_with (first | (go_at_call 102; refine (HPP.out).mono ?_; rintro e w3 ⟨rfl, hb4⟩; obtain ⟨q0, q1, q2, q3, q4, q5, q6, q7⟩ := stn_cell0 (X2.keep hb4); rw [ha3'.out] at q6; have d6 := keepc hb4 d5) | (go_at_call 70; refine (HW _ _ _ _).mono ?_; rw [HY.out]; rintro e w4 ⟨rfl, rfl⟩))
                        go_roundw
                        case rel => exact ⟨k + 1, by omega, by go_num, HGK2, X2.keep hb4, hB2.trans (hb4.mono hB2.size)⟩
                        case measure => simp [intOf]; omega
                  · obtain rfl : k = s.pockets.length := by omega
                    have HR : Hid (checkE s = 0) := by
                      refine Lib.hid ?_
                      have h2 := scan_allG (p := fun p : (Int × Int) × Int => inB p.1.1 (-1000000) 1000000 && inB p.1.2 (-1000000) 1000000 && inB p.2 0 255) (l := s.pockets) ((0, 0), 0) HG.out
                      rw [checkE, HO2.out, h2]
                      rfl
                    go_wp2_with fail
                    go_ret
                    exact ⟨by rw [HR.out]; rfl, hB2⟩
        · have hpI : (8 : Int) < s.pockets.length := by omega
          go_wp2_with (first | (go_at_call 100; refine (HV.out _ hB).mono ?_; rintro e w1 ⟨rfl, hb1⟩; have X1 := X.keep hb1; have hB1 := hB.trans (hb1.mono hB.size); obtain ⟨y0, y1, y2, y3, y4, y5, y6, y7⟩ := stn_cell0 X1; have yl := X1.lt) | (go_at_call 101; refine (HH.out _ hB1).mono ?_; rintro e w2 ⟨rfl, hb2⟩; have X2 := X1.keep hb2; have hB2 := hB1.trans (hb2.mono hB1.size); obtain ⟨p0, p1, p2, p3, p4, p5, p6, p7⟩ := stn_cell0 X2; have pl := X2.lt))
          go_ret
          exact ⟨by rw [check_bad (by simp [Stn.ok, hp])]; rfl, hB2⟩
      · have hq : ((s.compass.length : Int) != s.f.sec) = true := by simp; omega
        have HC : Hid (((s.compass.length : Int) == s.f.sec) = false) := by simpa [Hid] using hc
        clear hc
        go_wp2_with (first | (go_at_call 100; refine (HV.out _ hB).mono ?_; rintro e w1 ⟨rfl, hb1⟩; have X1 := X.keep hb1; have hB1 := hB.trans (hb1.mono hB.size); obtain ⟨y0, y1, y2, y3, y4, y5, y6, y7⟩ := stn_cell0 X1; have yl := X1.lt) | (go_at_call 101; refine (HH.out _ hB1).mono ?_; rintro e w2 ⟨rfl, hb2⟩; have X2 := X1.keep hb2; have hB2 := hB1.trans (hb2.mono hB1.size); obtain ⟨p0, p1, p2, p3, p4, p5, p6, p7⟩ := stn_cell0 X2; have pl := X2.lt))
        go_ret
        exact ⟨by rw [check_bad (by simp [Stn.ok, HC.out])]; rfl, hB2⟩

end Go.Proofs.Ythmngnfdfelkeaa
