/-
  What is proved: the contract of truth.Red.
-/
import Derived.Test.YthmngnfdfelkeaaMg15
import Derived.Test.YthmngnfdfelkeaaMg14
import Derived.Maps.AppendAt
import Derived.Deep.DeepCutAuto
namespace Go.Proofs.Ythmngnfdfelkeaa
open Go.RowKit
attribute [local go_sem ↓] max_int min_int

theorem boolInfo : (Try.prog.info? 4).map (fun i => (i.zero, i.size, i.bytes)) = some (some (.bool false), 1, 1) := by kernel_rfl

/-- Whether the k-th cell may not be there. -/
def badC (hs cs : List Int) (k : Nat) : Bool := decide (cs.getD k 0 < 0) || (decide ((hs.length : Int) ≤ cs.getD k 0) || decide (cs.getD k 0 ∈ cs.take k))
def redOk (hs cs : List Int) (tol : Int) : Bool := ((List.range cs.length).all fun k => !badC hs cs k) && (flatB 1000000000 hs && (!cs.isEmpty && inB tol 0 1000000000))
def redTop (hs cs : List Int) : Int := mostF (fun i => hs.getD (cs.getD i 0).toNat 0) cs.length
def redL (hs cs : List Int) (tol : Int) (k : Nat) : List Bool := (List.range k).map fun i => decide (redTop hs cs - tol ≤ hs.getD (cs.getD i 0).toNat 0)
def redR (hs cs : List Int) (tol : Int) : List Bool × Int := if redOk hs cs tol then (redL hs cs tol cs.length, 0) else ([], 1)

set_option maxRecDepth 100000 in
set_option maxHeartbeats 8000000 in
theorem red_any (A1 A2 : Option Addr) (c1 c2 : Nat) (hs cs : List Int) (tol : Int) (w : World) (h1 : RowAt w A1 (intCells hs)) (h2 : RowAt w A2 (intCells cs)) (n1 : hs.length ≤ 100000) (n2 : cs.length ≤ 100000) :
    Calls Try.prog 25 #[.slice A1 hs.length c1, .slice A2 cs.length c2, .int .i64 tol] w fun e w' => ∃ v, e = .returned (.tuple #[v, .int .i64 (redR hs cs tol).2]) ∧ w'.ownsRow w.heap.size 4 1 v (redR hs cs tol).1.length (boolCells (redR hs cs tol).1) ∧ Below w.heap.size w w' := by
  have hmm := @run_makeMap Try.prog
  go_enter Try.func25, Try.ntmps25
  go_upto_region 2 with fail
  have M : SeenAt (((w.alloc (.cells #[.slice A1 hs.length c1] 22)).alloc (.cells #[.slice A2 cs.length c2] 22)).alloc (.map #[] 0)) (w.heap.size + 1 + 1) (cs.take 0) := by
    have := SeenAt.made ((w.alloc (.cells #[.slice A1 hs.length c1] 22)).alloc (.cells #[.slice A2 cs.length c2] 22))
    simpa using this
  have X : Bk (((w.alloc (.cells #[.slice A1 hs.length c1] 22)).alloc (.cells #[.slice A2 cs.length c2] 22)).alloc (.map #[] 0)) w.heap.size 22 #[.slice A1 hs.length c1] := ((bk_last rfl).alloc _).alloc _
  have Y : Bk (((w.alloc (.cells #[.slice A1 hs.length c1] 22)).alloc (.cells #[.slice A2 cs.length c2] 22)).alloc (.map #[] 0)) (w.heap.size + 1) 22 #[.slice A2 cs.length c2] := (bk_last (by simp)).alloc _
  have hB : Below w.heap.size w (((w.alloc (.cells #[.slice A1 hs.length c1] 22)).alloc (.cells #[.slice A2 cs.length c2] 22)).alloc (.map #[] 0)) := (((Below.refl _ _).alloc (Nat.le_refl _) _).alloc (by simp) _).alloc (by simp; omega) _
  generalize ((w.alloc (.cells #[.slice A1 hs.length c1] 22)).alloc (.cells #[.slice A2 cs.length c2] 22)).alloc (.map #[] 0) = U at *
  clear hmm
  have y0 := Y.cell 0
  simp at y0
  go_upto_region 3 with fail
  clear y0
  go_loopw [18] (fun i wr => ∃ k : Nat, k ≤ cs.length ∧ i = .int .i64 k ∧ Hid (∀ j, j < k → badC hs cs j = false) ∧ SeenAt wr (w.heap.size + 1 + 1) (cs.take k) ∧ Bk wr w.heap.size 22 #[.slice A1 hs.length c1] ∧ Bk wr (w.heap.size + 1) 22 #[.slice A2 cs.length c2] ∧ Below w.heap.size w wr) (fun i _ => cs.length - (intOf i).toNat)
  case atStart => exact ⟨0, Nat.zero_le _, rfl, fun j hj => by omega, M, X, Y, hB⟩
  case round =>
    clear M X Y hB
    obtain ⟨k, hk, rfl, HG, M, X, Y, hB⟩ := hrel
    have x0 := X.cell 0
    have y0 := Y.cell 0
    simp at x0 y0
    by_cases hlt : k < cs.length
    · have hkI : (k : Int) < cs.length := by omega
      obtain ⟨b3, o3, ha3, hb3, hc3⟩ := (h2.below hB).intD (by omega)
      have d3 := hc3 k hlt
      subst ha3
      have HBAD : Hid (badC hs cs k = (decide (cs.getD k 0 < 0) || (decide ((hs.length : Int) ≤ cs.getD k 0) || decide (cs.getD k 0 ∈ cs.take k)))) := rfl
      have HRET : Hid (badC hs cs k = true → redR hs cs tol = ([], 1)) := fun h => by
        have : redOk hs cs tol = false := by
          unfold redOk
          have e : ((List.range cs.length).all fun k => !badC hs cs k) = false := by
            rw [List.all_eq_false]
            exact ⟨k, List.mem_range.2 hlt, by simp [h]⟩
          rw [e]; rfl
        simp [redR, this]
      have HNX : Hid (cs.take (k + 1) = cs.take k ++ [cs.getD k 0]) := by
        refine Lib.hid ?_
        rw [List.take_add_one, List.getElem?_eq_getElem hlt, getD_get _ _ hlt]
        rfl
      have hln := List.length_take_le k cs
      have hlook := fun (h : 0 ≤ cs.getD k 0 ∧ cs.getD k 0 < hs.length) => M.look (x := cs.getD k 0) (by omega)
      have HL := Lib.hid hlook
      clear hlook hc3
      generalize cs.getD k 0 = c at *
      generalize cs.take k = tk at *
      have HM := Lib.hid M
      clear M
      by_cases hc0 : c < 0
      · have hR := HRET.out (by rw [HBAD.out]; simp [hc0])
        have HR := Lib.hid hR
        clear hR HRET HBAD HL HM HNX
        go_wp2_with fail
        go_ret2
        exact ⟨.slice none 0 0, by rw [HR.out]; rfl, by rw [HR.out]; exact World.ownsRow_nil _ _ _ _, hB⟩
      · have hc0' : 0 ≤ c := by omega
        by_cases hc1 : (hs.length : Int) ≤ c
        · have hR := HRET.out (by rw [HBAD.out]; simp [hc1])
          have HR := Lib.hid hR
          clear hR HRET HBAD HL HM HNX
          go_wp2_with fail
          go_ret2
          exact ⟨.slice none 0 0, by rw [HR.out]; rfl, by rw [HR.out]; exact World.ownsRow_nil _ _ _ _, hB⟩
        · have hlk := HL.out ⟨hc0', by omega⟩
          by_cases hc2 : c ∈ tk
          · rw [decide_eq_true hc2] at hlk
            have hR := HRET.out (by rw [HBAD.out]; simp [hc2])
            have HR := Lib.hid hR
            clear hR HRET HBAD HL HM HNX hc2
            go_wp2_with fail
            go_ret2
            exact ⟨.slice none 0 0, by rw [HR.out]; rfl, by rw [HR.out]; exact World.ownsRow_nil _ _ _ _, hB⟩
          · rw [decide_eq_false hc2] at hlk
            have hb : badC hs cs k = false := by rw [HBAD.out]; simp [hc0, hc1, hc2]
            have HB2 : Hid (∀ j, j < k + 1 → badC hs cs j = false) := fun j hj => by
              by_cases e : j = k
              · rw [e]; exact hb
              · exact HG.out j (by omega)
            clear HG HRET HBAD HL hc2 hb
            go_wp2_with (first | (at_mapUpdate; refine wpList_seen rfl _ _ _ rfl _ _ rfl HM.out (by unfold maxLen; omega) _ rfl rfl (by omega) ?_; intro w2 hM2 hg2))
            have hz := hB.size
            rw [← HNX.out] at hM2
            go_roundw
            case rel => exact ⟨k + 1, by omega, by go_num, HB2, hM2, X.grown hg2 (fun e => by injection e with e; omega), Y.grown hg2 (fun e => by injection e with e; omega), hB.grown hg2 hz (fun r e => by injection e with e; omega)⟩
            case measure => simp [intOf]; omega
    · obtain rfl : k = cs.length := by omega
      have HF := Lib.hid (flat_any A1 c1 1000000000 hs wr (h1.below hB) (by omega) (by omega) (by omega))
      have hgood : ∀ i, i < cs.length → 0 ≤ cs.getD i 0 ∧ cs.getD i 0 < hs.length := fun i hi => by
        have := HG.out i hi
        simp only [badC, Bool.or_eq_false_iff, decide_eq_false_iff_not] at this
        omega
      have HGG := Lib.hid hgood
      have HR0 : Hid (redOk hs cs tol = (flatB 1000000000 hs && (!cs.isEmpty && inB tol 0 1000000000))) := by
        refine Lib.hid ?_
        unfold redOk
        have e : ((List.range cs.length).all fun k => !badC hs cs k) = true := by
          rw [List.all_eq_true]
          intro k hk
          simp [HG.out k (List.mem_range.1 hk)]
        rw [e]
        simp
      clear hgood HG M hlt hk
      have HRET : Hid (redOk hs cs tol = false → redR hs cs tol = ([], 1)) := fun h => by simp [redR, h]
      have HX := Lib.hid (And.intro X Y)
      by_cases hf : flatB 1000000000 hs = true
      · rw [hf] at HF
        by_cases he : 0 < cs.length
        · have heI : (0 : Int) < cs.length := by omega
          have hce : ((cs.length : Int) == 0) = false := by simp; intro h; simp [h] at he
          by_cases ht0 : tol < 0
          · have HR := Lib.hid (HRET.out (by rw [HR0.out]; simp [inB]; omega))
            clear HR0 HRET HGG hf
            go_wp2_with (go_at_call 67; refine (HF.out).mono ?_; rintro e w1 ⟨rfl, hb1⟩; have y1 := (HX.out.2.keep hb1).cell 0; simp at y1)
            go_ret2
            exact ⟨.slice none 0 0, by rw [HR.out]; rfl, by rw [HR.out]; exact World.ownsRow_nil _ _ _ _, hB.trans (hb1.mono hB.size)⟩
          · have ht0' : 0 ≤ tol := by omega
            by_cases ht1 : 1000000000 < tol
            · have HR := Lib.hid (HRET.out (by rw [HR0.out]; simp [inB]; omega))
              clear HR0 HRET HGG hf
              go_wp2_with (go_at_call 67; refine (HF.out).mono ?_; rintro e w1 ⟨rfl, hb1⟩; have y1 := (HX.out.2.keep hb1).cell 0; simp at y1)
              go_ret2
              exact ⟨.slice none 0 0, by rw [HR.out]; rfl, by rw [HR.out]; exact World.ownsRow_nil _ _ _ _, hB.trans (hb1.mono hB.size)⟩
            · have ht1' : tol ≤ 1000000000 := by omega
              have hok : redOk hs cs tol = true := by
                rw [HR0.out, hf]
                have : cs.isEmpty = false := by cases cs <;> simp at he ⊢
                simp [this, inB]; omega
              have HR : Hid (redR hs cs tol = (redL hs cs tol cs.length, 0)) := by refine Lib.hid ?_; simp [redR, hok]
              have hhs : ∀ x ∈ hs, -1000000000 ≤ x ∧ x ≤ 1000000000 := by simpa [flatB, inB] using hf
              have HHS := Lib.hid hhs
              clear HR0 HRET hf hok hhs
              go_upto_region 11 with (go_at_call 67; refine (HF.out).mono ?_; rintro e w1 ⟨rfl, hb1⟩; have y1 := (HX.out.2.keep hb1).cell 0; simp at y1)
              have X1 := HX.out.1.keep hb1
              have Y1 := HX.out.2.keep hb1
              have hB1 := hB.trans (hb1.mono hB.size)
              clear hb1 HX HF x0 y0 X Y hB
              have HM := Lib.hid (most69_any w.heap.size (w.heap.size + 1) (fun i => hs.getD (cs.getD i 0).toNat 0) cs.length he (by omega) w1 (fun W i hb hi => red1_any _ _ A1 A2 c1 c2 hs cs i W (X1.keep hb) (Y1.keep hb) ((h1.below hB1).below hb) ((h2.below hB1).below hb) hi (HGG.out i hi)))
              have htop : mostF (fun i => hs.getD (cs.getD i 0).toNat 0) cs.length = redTop hs cs := rfl
              rw [htop] at HM
              have hbd : -1000000000 ≤ redTop hs cs ∧ redTop hs cs ≤ 1000000000 := by
                unfold redTop
                refine most_bound cs.length (fun i hi => HHS.out _ (getD_mem 0 ?_)) he
                have := HGG.out i hi
                omega
              clear htop
              have HTL : Hid (∀ k, redL hs cs tol (k + 1) = redL hs cs tol k ++ [decide (redTop hs cs - tol ≤ hs.getD (cs.getD k 0).toNat 0)]) := fun k => by
                unfold redL
                rw [List.range_succ, List.map_append]
                rfl
              generalize redTop hs cs = top at *
              go_wp2_with (go_at_call 68; refine (HM.out).mono ?_; rintro e w2 ⟨rfl, hb2⟩; have y2 := (Y1.keep hb2).cell 0; simp at y2)
              have X2 := X1.keep hb2
              have Y2 := Y1.keep hb2
              have hB2 := hB1.trans (hb2.mono hB1.size)
              clear hb2 HM X1 Y1 y1 y2 hB1
              obtain ⟨j0, hj0, jz0, jz1, jz2⟩ := info_parts boolInfo
              have hQ := X2.lt
              have hQ2 := Y2.lt
              go_loopw [12, 60] (fun out i wr => ∃ k : Nat, k ≤ cs.length ∧ i = .int .i64 k ∧ (∃ A c, out = .slice A k c ∧ wr.ownsRow w2.heap.size 4 1 (.slice A k c) k (boolCells (redL hs cs tol k))) ∧ Bk wr w.heap.size 22 #[.slice A1 hs.length c1] ∧ Bk wr (w.heap.size + 1) 22 #[.slice A2 cs.length c2] ∧ Below w.heap.size w wr ∧ w2.heap.size ≤ wr.heap.size) (fun _ i _ => cs.length - (intOf i).toNat)
              case atStart => exact ⟨0, Nat.zero_le _, rfl, ⟨none, 0, rfl, World.ownsRow_nil _ _ _ _⟩, X2, Y2, hB2, Nat.le_refl _⟩
              case round =>
                clear X2 Y2 hB2
                obtain ⟨k, hk, rfl, ⟨A, c, rfl, ho⟩, X, Y, hB, hz⟩ := hrel
                by_cases hlt : k < cs.length
                · have hkI : (k : Int) < cs.length := by omega
                  obtain ⟨g0, g1⟩ := HGG.out k hlt
                  have HN := Lib.hid (HTL.out k)
                  have hx1 := HHS.out (hs.getD (cs.getD k 0).toNat 0) (getD_mem 0 (by omega))
                  obtain ⟨b3, o3, ha3, hb3, hc3⟩ := (h2.below hB).intD (by omega)
                  obtain ⟨b4, o4, ha4, hb4, hc4⟩ := (h1.below hB).intD (by omega)
                  have d3 := hc3 k hlt
                  have d4 := hc4 (cs.getD k 0).toNat (by omega)
                  subst ha3 ha4
                  clear hc3 hc4
                  generalize hcc : cs.getD k 0 = v at *
                  obtain ⟨cc, rfl⟩ : ∃ cc : Nat, v = cc := ⟨v.toNat, by omega⟩
                  rw [Int.toNat_natCast] at *
                  generalize hs.getD cc 0 = x at *
                  have x0 := X.cell 0
                  simp at x0
                  have HO := Lib.hid (And.intro ho (And.intro X (And.intro Y hB)))
                  have EE : Hid (k + 1 ≤ maxLen ∧ (k + 1) * 1 ≤ 140737488355328) := ⟨by unfold maxLen; omega, by omega⟩
                  clear ho X Y hcc HGG HTL HHS
                  obtain ⟨bb, hbb⟩ : ∃ bb, decide (top - tol ≤ x) = bb := ⟨_, rfl⟩
                  rw [hbb] at HN
                  have hgoal : ∀ (wq : World) (v' : Value), wq.ownsRow w2.heap.size 4 1 v' (k + 1) (boolCells (redL hs cs tol k) ++ [.bool bb]) → wq.ownsRow w2.heap.size 4 1 v' (k + 1) (boolCells (redL hs cs tol (k + 1))) := fun wq v' h => by
                    rw [HN.out]
                    simpa [boolCells] using h
                  have HGO := Lib.hid hgoal
                  clear hgoal HN
                  cases bb
                  · have hno : ¬ top - tol ≤ x := of_decide_eq_false hbb
                    clear hbb
                    go_wp2_with (at_builtin; refine (wpList_append_own_at _ rfl _ _ 37 rfl w2.heap.size 4 j0 _ 1 1 Try.underlying37 hj0 jz0 jz1 jz2 rfl (by decide) _ _ _ rfl (HO.out.1.alloc _) ⟨wr.heap.size, 0, none⟩ 1 1 [.bool false] rfl rfl (cell_one_new _ _ _) (by simp [Value.oneCell']) EE.out.1 EE.out.2 (by simp; omega) ?_); intro v' w5 hown' hg5 _ _; have hown6 := HGO.out _ _ hown'; obtain ⟨A', c', rfl, _, _, _⟩ := own_form hown6)
                    have hBz := HO.out.2.2.2.size
                    go_roundw
                    case rel => exact ⟨k + 1, by omega, by go_num, ⟨_, _, by first | rfl | (simp; done), hown6⟩, (HO.out.2.1.alloc _).grown hg5 (own_ne HO.out.1 hQ), (HO.out.2.2.1.alloc _).grown hg5 (own_ne HO.out.1 hQ2), (HO.out.2.2.2.alloc hBz _).grown hg5 (by simp; omega) (fun r e => by have := (HO.out.1.lt r e).1; omega), by have := hg5.size; simp at this; omega⟩
                    case measure => simp [intOf]; omega
                  · have hno : top - tol ≤ x := of_decide_eq_true hbb
                    clear hbb
                    go_wp2_with (at_builtin; refine (wpList_append_own_at _ rfl _ _ 37 rfl w2.heap.size 4 j0 _ 1 1 Try.underlying37 hj0 jz0 jz1 jz2 rfl (by decide) _ _ _ rfl (HO.out.1.alloc _) ⟨wr.heap.size, 0, none⟩ 1 1 [.bool true] rfl rfl (cell_one_new _ _ _) (by simp [Value.oneCell']) EE.out.1 EE.out.2 (by simp; omega) ?_); intro v' w5 hown' hg5 _ _; have hown6 := HGO.out _ _ hown'; obtain ⟨A', c', rfl, _, _, _⟩ := own_form hown6)
                    have hBz := HO.out.2.2.2.size
                    go_roundw
                    case rel => exact ⟨k + 1, by omega, by go_num, ⟨_, _, by first | rfl | (simp; done), hown6⟩, (HO.out.2.1.alloc _).grown hg5 (own_ne HO.out.1 hQ), (HO.out.2.2.1.alloc _).grown hg5 (own_ne HO.out.1 hQ2), (HO.out.2.2.2.alloc hBz _).grown hg5 (by simp; omega) (fun r e => by have := (HO.out.1.lt r e).1; omega), by have := hg5.size; simp at this; omega⟩
                    case measure => simp [intOf]; omega
                · obtain rfl : k = cs.length := by omega
                  go_wp2_with fail
                  go_ret2
                  exact ⟨_, by rw [HR.out]; rfl, by rw [HR.out]; simpa [redL] using own_base ho (by omega), hB⟩
        · have he0 : cs.length = 0 := by omega
          have HR := Lib.hid (HRET.out (by rw [HR0.out]; simp [List.eq_nil_of_length_eq_zero he0]))
          have hce : ((cs.length : Int) == 0) = true := by simp [he0]
          clear he0 he
          clear HR0 HRET HGG hf
          go_wp2_with (go_at_call 67; refine (HF.out).mono ?_; rintro e w1 ⟨rfl, hb1⟩; have y1 := (HX.out.2.keep hb1).cell 0; simp at y1)
          go_ret2
          exact ⟨.slice none 0 0, by rw [HR.out]; rfl, by rw [HR.out]; exact World.ownsRow_nil _ _ _ _, hB.trans (hb1.mono hB.size)⟩
      · have hf' : flatB 1000000000 hs = false := by simpa using hf
        rw [hf'] at HF
        have HR := Lib.hid (HRET.out (by rw [HR0.out]; simp [hf']))
        clear HR0 HRET HGG hf hf'
        go_wp2_with (go_at_call 67; refine (HF.out).mono ?_; rintro e w1 ⟨rfl, hb1⟩)
        go_ret2
        exact ⟨.slice none 0 0, by rw [HR.out]; rfl, by rw [HR.out]; exact World.ownsRow_nil _ _ _ _, hB.trans (hb1.mono hB.size)⟩

end Go.Proofs.Ythmngnfdfelkeaa
