/-
  What is proved: the contract of stones.cut.
-/
import Derived.Test.YtkikjmkpndmdcaaDressW
import Derived.Test.YtkikjmkpndmdcaaCounts
namespace Go.Proofs.Ytkikjmkpndmdcaa
open Go.RowKit

/-- The kinds after n cells of a furrow in a ring. -/
def cutAt (S ring : Nat) (base : Int) (n : Nat) : Nat := ring * S + ((base + n) % S).toNat
def cutK (S ring : Nat) (base steep : Int) (K : List Int) : Nat → List Int
  | 0 => K
  | n + 1 => if (cutK S ring base steep K n).getD (cutAt S ring base n) 0 = 0 then (cutK S ring base steep K n).set (cutAt S ring base n) (if steep ≤ n then 2 else 1) else cutK S ring base steep K n
theorem cutK_len (S ring : Nat) (base steep : Int) (K : List Int) : ∀ n, (cutK S ring base steep K n).length = K.length
  | 0 => rfl
  | n + 1 => by
    have := cutK_len S ring base steep K n
    simp only [cutK]
    split <;> simp [this]
theorem cutK_in (S ring : Nat) (base steep : Int) {K : List Int} (h : ∀ x ∈ K, 0 ≤ x ∧ x ≤ 2) : ∀ n, ∀ x ∈ cutK S ring base steep K n, 0 ≤ x ∧ x ≤ 2
  | 0 => h
  | n + 1 => by
    have ih := cutK_in S ring base steep h n
    simp only [cutK]
    split
    · intro x hx
      rcases List.mem_or_eq_of_mem_set hx with h1 | h1
      · exact ih x h1
      · rw [h1]; split <;> omega
    · exact ih
theorem grownBy_setAny (W : World) (p : Addr) (v : Value) : W.grownBy (W.setCell p v) (some p.block) :=
  ⟨rfl, rfl, rfl, by simp, fun k _ hk => Below.heap_setCell W p v k (fun e => hk (by rw [e]))⟩
def furBase (R : Nat) (x : Fur) (ring : Nat) (first : Int) : Int := first + x.at_ + (((R : Int) - 1 - ring) * x.lean) / x.leans
def furLen (x : Fur) : Nat := (x.steep + x.feather).toNat
structure FurIn (x : Fur) (wide : Int) (R : Nat) : Prop where
  a0 : 0 ≤ x.at_
  a1 : x.at_ ≤ wide - 1
  f0 : 0 ≤ x.from_
  f1 : x.from_ ≤ R - 1
  l0 : -96 ≤ x.lean
  l1 : x.lean ≤ 96
  m0 : 1 ≤ x.leans
  m1 : x.leans ≤ 96
  s0 : 1 ≤ x.steep
  s1 : x.steep ≤ wide
  e0 : 0 ≤ x.feather
  e1 : x.feather ≤ wide
  sum : x.steep + x.feather < wide
theorem furIn_of {wide : Int} {R : Nat} {x : Fur} (h : furGood wide R x = true) : FurIn x wide R := by
  simp only [furGood, inB, Bool.and_eq_true, decide_eq_true_eq, Bool.not_eq_true', decide_eq_false_iff_not] at h
  obtain ⟨⟨⟨⟨⟨⟨h1, h2⟩, h3⟩, h4⟩, h5⟩, h6⟩, h7⟩ := h
  exact ⟨h1.1, h1.2, h2.1, h2.2, h3.1, h3.2, h4.1, h4.2, h5.1, h5.2, h6.1, h6.2, by omega⟩

theorem lean_bd {x : Fur} {wide : Int} {R ring : Nat} (h : FurIn x wide R) (hR : R ≤ 4) (hr : ring < R) : -300 ≤ ((R : Int) - 1 - ring) * x.lean ∧ ((R : Int) - 1 - ring) * x.lean ≤ 300 ∧ -300 ≤ (((R : Int) - 1 - ring) * x.lean) / x.leans ∧ (((R : Int) - 1 - ring) * x.lean) / x.leans ≤ 300 := by
  have hl0 := h.l0
  have hl1 := h.l1
  have hm0 := h.m0
  have hd : (R : Int) - 1 - ring = 0 ∨ (R : Int) - 1 - ring = 1 ∨ (R : Int) - 1 - ring = 2 ∨ (R : Int) - 1 - ring = 3 := by omega
  have hb : -300 ≤ ((R : Int) - 1 - ring) * x.lean ∧ ((R : Int) - 1 - ring) * x.lean ≤ 300 := by
    rcases hd with e | e | e | e <;> rw [e] <;> omega
  exact ⟨hb.1, hb.2, Int.le_ediv_of_mul_le (by omega) (by omega), Int.ediv_le_of_le_mul (by omega) (by omega)⟩

set_option maxRecDepth 100000 in
set_option maxHeartbeats 8000000 in
theorem cut_any (eye : Int) (R S g c ring : Nat) (x : Fur) (first wide : Int) (K : List Int) (w : World) (hx : FurIn x wide R) (hw : wide ≤ 8) (hR : 1 ≤ R ∧ R ≤ 4) (hS : 2 ≤ S ∧ S ≤ 8) (hr : ring < R) (hf : 0 ≤ first ∧ first ≤ 1000)
    (hK : K.length = R * S) (hg : Bk w g 3 (intCells K).toArray) :
    Calls Try.prog 17 #[.agg #[.int .i64 eye, .int .i64 R, .int .i64 S, .slice (some ⟨g, 0, none⟩) (R * S) c], x.val, .int .i64 ring, .int .i64 first] w fun e w' =>
      (∃ v, e = .returned v) ∧ w.grownBy w' (some g) ∧ Bk w' g 3 (intCells (cutK S ring (furBase R x ring first) x.steep K (furLen x))).toArray := by
  obtain ⟨b1, b2, b3, b4⟩ := lean_bd hx hR.2 hr
  have hx0 := hx
  obtain ⟨a0, a1, _, _, _, _, m0, m1, s0, s1, e0, e1, hsum⟩ := hx
  have HB : Hid (furBase R x ring first = first + x.at_ + (((R : Int) - 1 - ring) * x.lean) / x.leans) := rfl
  have HLn : Hid ((furLen x : Int) = x.steep + x.feather) := by unfold Hid furLen; omega
  obtain ⟨at_, from_, lean, leans, steep, feather⟩ := x
  unfold Fur.val
  simp only at *
  have hgl := hg.lt
  obtain ⟨W, hW⟩ : ∃ W, (w.alloc (.cells #[.int .i64 eye, .int .i64 R, .int .i64 S, .slice (some ⟨g, 0, none⟩) (R * S) c] 30)).alloc (.cells #[.int .i64 at_, .int .i64 from_, .int .i64 lean, .int .i64 leans, .int .i64 steep, .int .i64 feather] 63) = W := ⟨_, rfl⟩
  have hbW : Below w.heap.size w W := by rw [← hW]; exact ((Below.refl _ _).alloc (Nat.le_refl _) _).alloc (by simp) _
  have X := (show Bk W w.heap.size 30 #[.int .i64 eye, .int .i64 R, .int .i64 S, .slice (some ⟨g, 0, none⟩) (R * S) c] by rw [← hW]; exact (bk_last rfl).alloc _)
  have Y := (show Bk W (w.heap.size + 1) 63 #[.int .i64 at_, .int .i64 from_, .int .i64 lean, .int .i64 leans, .int .i64 steep, .int .i64 feather] by rw [← hW]; exact bk_last (by simp))
  have G := hg.keep hbW
  have hgr : w.grownBy W (some g) := ⟨hbW.os, hbW.tape, hbW.output, hbW.size, fun k hk _ => hbW.block k hk⟩
  have HW := Lib.hid hW
  have x1 := X.cell 1
  have y0 := Y.cell 0
  have y2 := Y.cell 2
  have y3 := Y.cell 3
  simp at x1 y0 y2 y3
  have hw1 := IntWalk.i64_in (first + at_) (by omega)
  have hw2 := IntWalk.i64_in ((R : Int) - 1) (by omega)
  have hw3 := IntWalk.i64_in ((R : Int) - 1 - ring) (by omega)
  have hw4 := IntWalk.i64_in (((R : Int) - 1 - ring) * lean) (by omega)
  have hw5 := IntWalk.i64_in (first + at_ + (((R : Int) - 1 - ring) * lean) / leans) (by omega)
  have hbb : -1000 ≤ furBase R ⟨at_, from_, lean, leans, steep, feather⟩ ring first ∧ furBase R ⟨at_, from_, lean, leans, steep, feather⟩ ring first ≤ 2000 := by rw [HB.out]; omega
  rw [← HB.out] at hw5
  have HFL := Lib.hid (fun z : Ext W => floor_any (((R : Int) - 1 - ring) * lean) leans z.w (by omega) (by omega))
  have HB2 : Hid (first + at_ + (((R : Int) - 1 - ring) * lean) / leans = furBase R ⟨at_, from_, lean, leans, steep, feather⟩ ring first) := HB.out.symm
  clear hW hg hbW HB
  go_enter Try.func17, Try.ntmps17
  go_upto_region 1 with fail
  rw [HW.out]
  clear HW
  replace x1 := fun z : Ext W => keepc z.bel x1
  replace y0 := fun z : Ext W => keepc z.bel y0
  replace y2 := fun z : Ext W => keepc z.bel y2
  replace y3 := fun z : Ext W => keepc z.bel y3
  refine wp_region_ext (by kernel_rfl) (by kernel_rfl) ?_
  repeat (go_big_quiet_step ((go_at_call 36; exact ext_same (HFL.out _))))
  refine wpQuiet_nil ?_
  rintro _ ⟨y, rfl⟩
  clear x1 y0 y2 y3 HFL hw1 hw2 hw3 hw4 hw5 b1 b2 b3 b4
  have hb9 := y.bel
  generalize y.w = W9 at hb9 ⊢
  rw [HB2.out]
  clear HB2
  generalize hbe : furBase R ⟨at_, from_, lean, leans, steep, feather⟩ ring first = base at *
  have HBE := Lib.hid hbe
  generalize hle : furLen ⟨at_, from_, lean, leans, steep, feather⟩ = L at *
  have HLE := Lib.hid hle
  clear hbe hle
  generalize (((R : Int) - 1 - ring) * lean) / leans = qq at *
  generalize ((R : Int) - 1 - ring) * lean = pp at *
  replace X := X.keep hb9
  replace Y := Y.keep hb9
  replace G := G.keep hb9
  have hgr9 : w.grownBy W9 (some g) := hgr.trans ⟨hb9.os, hb9.tape, hb9.output, hb9.size, fun k hk _ => hb9.block k hk⟩
  clear hgr hb9
  have hL := HLn.out
  have y4 := Y.cell 4
  have y5 := Y.cell 5
  simp at y4 y5
  have hws := IntWalk.i64_in (steep + feather) (by omega)
  rw [← hL] at hws
  have HSF : Hid (steep + feather = (L : Int)) := hL.symm
  have HKL := Lib.hid (fun n => cutK_len S ring base steep K n)
  have hLb : L ≤ 8 := by omega
  clear hL
  go_upto_region 3 with fail
  rw [HSF.out]
  clear y4 y5 hws
  go_loopw [32] (fun ix wr => ∃ n : Nat, n ≤ L ∧ ix = .int .i64 n ∧ w.grownBy wr (some g) ∧ Bk wr w.heap.size 30 #[.int .i64 eye, .int .i64 R, .int .i64 S, .slice (some ⟨g, 0, none⟩) (R * S) c] ∧ Bk wr (w.heap.size + 1) 63 #[.int .i64 at_, .int .i64 from_, .int .i64 lean, .int .i64 leans, .int .i64 steep, .int .i64 feather] ∧ Bk wr g 3 (intCells (cutK S ring base steep K n)).toArray) (fun ix _ => L - (intOf ix).toNat)
  case atStart => exact ⟨0, Nat.zero_le _, rfl, hgr9, X, Y, G⟩
  case round =>
    clear X Y G hgr9
    obtain ⟨n, hn, rfl, hgr, X, Y, G⟩ := hrel
    by_cases hlt : n < L
    · have hem : 0 ≤ (base + n) % (S : Int) ∧ (base + n) % (S : Int) < S := ⟨Int.emod_nonneg _ (by omega), Int.emod_lt_of_pos _ (by omega)⟩
      have hml : ring * S + ((base + n) % (S : Int)).toNat < R * S := cell_lt hr (by omega)
      have hcast : (ring : Int) * S + (base + n) % (S : Int) = ((ring * S + ((base + n) % (S : Int)).toNat : Nat) : Int) := by
        rw [Int.natCast_add, Int.natCast_mul]; omega
      have HI := Lib.hid (index_any ⟨eye, R, S, K⟩ (some ⟨g, 0, none⟩) c ring (base + n) wr (by simp only; omega) (by omega))
      unfold Fac.val at HI
      simp only [hK] at HI
      rw [hcast] at HI
      have HCU : Hid (cutK S ring base steep K (n + 1) = if (cutK S ring base steep K n).getD (ring * S + ((base + n) % (S : Int)).toNat) 0 = 0 then (cutK S ring base steep K n).set (ring * S + ((base + n) % (S : Int)).toNat) (if steep ≤ n then 2 else 1) else cutK S ring base steep K n) := rfl
      have hlen := HKL.out n
      rw [hK] at hlen
      have hcell := intRow_cell G (k := ring * S + ((base + n) % (S : Int)).toNat) (by omega)
      generalize ring * S + ((base + n) % (S : Int)).toNat = ix at *
      generalize (base + n) % (S : Int) = em at *
      clear hem hcast hlen
      generalize hM : R * S = M at *
      have HM := Lib.hid hM
      have hixI : (ix : Int) < M := by omega
      have hwa := IntWalk.i64_in (base + n) (by omega)
      have x0 := X.cell 0
      have x1 := X.cell 1
      have x2 := X.cell 2
      have x3 := X.cell 3
      simp at x0 x1 x2 x3
      have hne1 : w.heap.size ≠ g := by omega
      have hne2 : w.heap.size + 1 ≠ g := by omega
      have HALL := Lib.hid (And.intro hgr (And.intro X (And.intro Y G)))
      have hzr : wr.heap.size ≤ wr.heap.size := Nat.le_refl _
      have hlx := X.lt
      have hly := Y.lt
      have hlg := G.lt
      clear hM hK
      go_upto_region 6 with (go_at_call 37; refine (HI.out).mono ?_; rintro e w2 ⟨rfl, hb2⟩)
      obtain ⟨hgr, X, Y, G⟩ := HALL.out
      replace hcell := keepc hb2 hcell
      have hgr2 : w.grownBy w2 (some g) := hgr.trans ⟨hb2.os, hb2.tape, hb2.output, hb2.size, fun k hk _ => hb2.block k hk⟩
      replace X := X.keep hb2
      replace Y := Y.keep hb2
      replace G := G.keep hb2
      clear x0 x1 x2 HALL HI hb2 hgr x3 hlx hly hlg hzr
      have x3 := X.cell 3
      have y4 := Y.cell 4
      have g0 := G.fz ix
      have hlx := X.lt
      have hly := Y.lt
      have hlg := G.lt
      simp at x3 y4
      generalize (cutK S ring base steep K n).getD ix 0 = cv at *
      by_cases hz : cv = 0
      · subst hz
        by_cases hst : steep ≤ n
        · have HC2 : Hid (cutK S ring base steep K (n + 1) = (cutK S ring base steep K n).set ix 2) := by rw [Hid, HCU.out, if_pos rfl, if_pos hst]
          have HALL := Lib.hid (And.intro hgr2 (And.intro X (And.intro Y G)))
          clear X Y G hgr2 HCU
          go_wp2_with fail
          go_roundw
          case rel =>
            obtain ⟨hgr, X, Y, G⟩ := HALL.out
            refine ⟨n + 1, by omega, by go_num, ?_, (X.far (by simp only [ne_eq]; omega) _).far (by simp only [ne_eq]; omega) _, (Y.far (by simp only [ne_eq]; omega) _).far (by simp only [ne_eq]; omega) _, ?_⟩
            · exact (hgr.trans (grownBy_setAny _ _ _)).trans (grownBy_setAny _ _ _)
            · rw [HC2.out]
              have := (G.put ix (.int .i64 1)).put ix (.int .i64 2)
              rw [intRow_set, intRow_set, List.set_set] at this
              exact this
          case measure => simp [intOf]; omega
        · have HC2 : Hid (cutK S ring base steep K (n + 1) = (cutK S ring base steep K n).set ix 1) := by rw [Hid, HCU.out, if_pos rfl, if_neg hst]
          have HALL := Lib.hid (And.intro hgr2 (And.intro X (And.intro Y G)))
          clear X Y G hgr2 HCU
          go_wp2_with fail
          go_roundw
          case rel =>
            obtain ⟨hgr, X, Y, G⟩ := HALL.out
            refine ⟨n + 1, by omega, by go_num, hgr.trans (grownBy_setAny _ _ _), X.far (by simp only [ne_eq]; omega) _, Y.far (by simp only [ne_eq]; omega) _, ?_⟩
            rw [HC2.out]
            have := G.put ix (.int .i64 1)
            rw [intRow_set] at this
            exact this
          case measure => simp [intOf]; omega
      · have HC2 : Hid (cutK S ring base steep K (n + 1) = cutK S ring base steep K n) := by rw [Hid, HCU.out, if_neg hz]
        have hzb : (cv == 0) = false := by simpa using hz
        have HALL := Lib.hid (And.intro hgr2 (And.intro X (And.intro Y G)))
        clear X Y G hgr2 HCU hz
        go_wp2_with fail
        go_roundw
        case rel =>
          obtain ⟨hgr, X, Y, G⟩ := HALL.out
          exact ⟨n + 1, by omega, by go_num, hgr, X, Y, by rw [HC2.out]; exact G⟩
        case measure => simp [intOf]; omega
    · obtain rfl : n = L := by omega
      go_wp2_with fail
      go_end0
      exact ⟨⟨_, rfl⟩, hgr, by rw [HBE.out, HLE.out]; exact G⟩

end Go.Proofs.Ytkikjmkpndmdcaa
