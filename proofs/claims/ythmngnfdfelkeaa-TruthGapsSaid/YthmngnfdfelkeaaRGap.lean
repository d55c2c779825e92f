/-
  What is proved: the contracts of the reference's gapped and gaps.
-/
import Derived.Test.YthmngnfdfelkeaaRubs
import Derived.Test.YthmngnfdfelkeaaRefB
import Derived.Maps.AppendAt
import Derived.BigRegion
namespace Go.Proofs.Ythmngnfdfelkeaa
open Go.RowKit
attribute [local go_sem ↓] max_int min_int

/-- The error of a face, two lists of heights and whether the rest is right. -/
def gappedE (p : Gp) (right : Bool) : Int := if p.f.ok then if p.good && right then 0 else 1 else 10
def hgtB (p : Gp) (l : List Int) : Bool := l.length == p.f.kinds.length && flatB 100000 l
theorem good_split (p : Gp) : p.good = (hgtB p p.bed && hgtB p p.run) := by
  unfold Gp.good hgtB
  cases (p.bed.length == p.f.kinds.length) <;> cases (p.run.length == p.f.kinds.length) <;> cases flatB 100000 p.bed <;> cases flatB 100000 p.run <;> rfl

set_option maxRecDepth 100000 in
set_option maxHeartbeats 4000000 in
theorem rgapped_any (p : Gp) (z : GLoc) (right : Bool) (w : World) (hp : GpAt w p z) :
    Calls Try.prog 88 #[p.f.val z.a1 z.c1, .slice z.a2 p.bed.length z.c2, .slice z.a3 p.run.length z.c3, .bool right] w fun e w' => e = .returned (.int .i64 (gappedE p right)) ∧ Below w.heap.size w w' := by
  have HV : Hid (∀ W, Below w.heap.size w W → Calls Try.prog 100 #[p.f.val z.a1 z.c1] W fun e w' => e = .returned (.bool p.f.ok) ∧ Below W.heap.size W w') := fun W h => rvalid_any _ _ _ _ (hp.below h).k hp.n1
  have HH1 : Hid (∀ W, Below w.heap.size w W → Calls Try.prog 101 #[p.f.val z.a1 z.c1, .slice z.a2 p.bed.length z.c2] W fun e w' => e = .returned (.bool (hgtB p p.bed)) ∧ Below W.heap.size W w') := fun W h => rheights_any _ _ _ _ _ _ _ (hp.below h).b hp.n2 hp.n1
  have HH2 : Hid (∀ W, Below w.heap.size w W → Calls Try.prog 101 #[p.f.val z.a1 z.c1, .slice z.a3 p.run.length z.c3] W fun e w' => e = .returned (.bool (hgtB p p.run)) ∧ Below W.heap.size W w') := fun W h => rheights_any _ _ _ _ _ _ _ (hp.below h).r hp.n3 hp.n1
  have HG := Lib.hid (good_split p)
  have X0 : Bk (w.alloc (.cells #[.int .i64 p.f.eye, .int .i64 p.f.rings, .int .i64 p.f.sec, .slice z.a1 p.f.kinds.length z.c1] 24)) w.heap.size 24 #[.int .i64 p.f.eye, .int .i64 p.f.rings, .int .i64 p.f.sec, .slice z.a1 p.f.kinds.length z.c1] := bk_last rfl
  have hB : Below w.heap.size w (w.alloc (.cells #[.int .i64 p.f.eye, .int .i64 p.f.rings, .int .i64 p.f.sec, .slice z.a1 p.f.kinds.length z.c1] 24)) := (Below.refl _ _).alloc (Nat.le_refl _) _
  unfold Fac.val at HV HH1 HH2 ⊢
  obtain ⟨h1, e1⟩ : ∃ b, hgtB p p.bed = b := ⟨_, rfl⟩
  obtain ⟨h2, e2⟩ : ∃ b, hgtB p p.run = b := ⟨_, rfl⟩
  rw [e1] at HH1
  rw [e2] at HH2
  have HR : Hid (∀ b, p.f.ok = b → gappedE p right = if b then if (h1 && h2) && right then 0 else 1 else 10) := fun b hb => by
    unfold gappedE
    rw [hb, HG.out, e1, e2]
  clear HG e1 e2
  go_enter Try.func88, Try.ntmps88
  go_wp2_with fail
  generalize w.alloc (.cells _ 24) = V at *
  refine (HV.out _ hB).mono ?_
  rintro e w1 ⟨rfl, hb1⟩
  have hB1 := hB.trans (hb1.mono hB.size)
  have X1 := X0.keep hb1
  have x0 := X1.cell 0
  have x1 := X1.cell 1
  have x2 := X1.cell 2
  have x3 := X1.cell 3
  simp at x0 x1 x2 x3
  clear HV hb1 X0 hB
  cases hok : p.f.ok
  · have HE := Lib.hid (HR.out _ hok)
    clear HR hok
    go_wp2_with fail
    go_ret
    exact ⟨by first | (rw [HE.out]; done) | (rw [HE.out]; rfl), hB1⟩
  · have HE := Lib.hid (HR.out _ hok)
    clear HR hok
    cases h1
    · go_wp2_with (go_at_call 101; refine (HH1.out _ hB1).mono ?_; rintro e w2 ⟨rfl, hb2⟩)
      go_ret
      exact ⟨by first | (rw [HE.out]; done) | (rw [HE.out]; rfl), hB1.trans (hb2.mono hB1.size)⟩
    · go_wp2_with fail
      refine (HH1.out _ hB1).mono ?_
      rintro e w2 ⟨rfl, hb2⟩
      have hB2 := hB1.trans (hb2.mono hB1.size)
      have X2 := X1.keep hb2
      clear HH1 x0 x1 x2 x3 X1 hb2 hB1
      have x0 := X2.cell 0
      have x1 := X2.cell 1
      have x2 := X2.cell 2
      have x3 := X2.cell 3
      simp at x0 x1 x2 x3
      cases h2
      · go_wp2_with (go_at_call 101; refine (HH2.out _ hB2).mono ?_; rintro e w3 ⟨rfl, hb3⟩)
        go_ret
        exact ⟨by first | (rw [HE.out]; done) | (rw [HE.out]; rfl), hB2.trans (hb3.mono hB2.size)⟩
      · cases right
        · go_wp2_with (go_at_call 101; refine (HH2.out _ hB2).mono ?_; rintro e w3 ⟨rfl, hb3⟩)
          go_ret
          exact ⟨by first | (rw [HE.out]; done) | (rw [HE.out]; rfl), hB2.trans (hb3.mono hB2.size)⟩
        · go_wp2_with (go_at_call 101; refine (HH2.out _ hB2).mono ?_; rintro e w3 ⟨rfl, hb3⟩)
          go_ret
          exact ⟨by first | (rw [HE.out]; done) | (rw [HE.out]; rfl), hB2.trans (hb3.mono hB2.size)⟩

/-- append under a name that the walk does not open. -/
def appendH (ts : Array TypeId) (ty : TypeId) (args : Array Value) : Sem Value := Builtin.append_ ts ty args
theorem append_h (ts : Array TypeId) (ty : TypeId) (args : Array Value) : Builtin.append_ ts ty args = appendH ts ty args := rfl
attribute [local go_sem ↓] append_h

/-- The gaps at a turn. -/
def gapL (p : Gp) (l : Int) (t k : Nat) : List Int := (List.range k).map fun c => l - sumV p c t
theorem gapL_len (p : Gp) (l : Int) (t k : Nat) : (gapL p l t k).length = k := by simp [gapL]
theorem gapL_succ (p : Gp) (l : Int) (t k : Nat) : gapL p l t (k + 1) = gapL p l t k ++ [l - sumV p k t] := by
  unfold gapL
  rw [List.range_succ, List.map_append]
  rfl

set_option maxRecDepth 100000 in
set_option maxHeartbeats 4000000 in
theorem rgaps_any (p : Gp) (z : GLoc) (l : Int) (t : Nat) (w : World) (hp : GpAt w p z) (hok : p.ok = true) (hl : 0 ≤ l ∧ l ≤ 1000000000) (ht : (t : Int) < p.f.sec) :
    Calls Try.prog 89 #[p.f.val z.a1 z.c1, .slice z.a2 p.bed.length z.c2, .slice z.a3 p.run.length z.c3, .int .i64 l, .int .i64 t] w fun e w' => ∃ v, e = .returned v ∧ w'.ownsRow w.heap.size 3 1 v p.bed.length (intCells (gapL p l t p.bed.length)) ∧ Below w.heap.size w w' := by
  obtain ⟨j0, hj0, jz0, jz1, jz2⟩ := info_parts intInfo
  obtain ⟨h1, h2, h3, h4, h5⟩ := gp_ok hok
  obtain ⟨k1, k2, k3, k4, k5, k6, k7, k8⟩ := fac_ok h1
  obtain ⟨S, hS⟩ : ∃ S : Nat, p.f.sec = S := ⟨p.f.sec.toNat, by omega⟩
  have HOK := Lib.hid (And.intro hok (And.intro h2 (And.intro h3 (And.intro h4 (And.intro h5 k8)))))
  obtain ⟨V, hV⟩ : ∃ V, w.alloc (.cells #[.int .i64 p.f.eye, .int .i64 p.f.rings, .int .i64 p.f.sec, .slice z.a1 p.f.kinds.length z.c1] 24) = V := ⟨_, rfl⟩
  have X : Bk V w.heap.size 24 #[.int .i64 p.f.eye, .int .i64 p.f.rings, .int .i64 p.f.sec, .slice z.a1 p.f.kinds.length z.c1] := by rw [← hV]; exact bk_last rfl
  have hB0 : Below w.heap.size w V := by rw [← hV]; exact (Below.refl _ _).alloc (Nat.le_refl _) _
  have hVz : V.heap.size = w.heap.size + 1 := by rw [← hV]; simp
  have HV := Lib.hid hV
  have HVz := Lib.hid hVz
  have hSo : Hid (p.f.sec = (S : Int)) := hS
  have hS2 : 2 ≤ S ∧ S ≤ 96 := by omega
  have htS : t < S := by omega
  rw [hS] at X hV
  replace HV := Lib.hid hV
  clear hV hVz h1 h2 h3 h4 h5 k1 k2 k3 k4 k5 k6 k7 k8 hok ht
  unfold Fac.val
  rw [hS]
  clear hS
  go_enter Try.func89, Try.ntmps89
  go_upto_region 3 with fail
  rw [HV.out]
  clear HV
  go_loopw [11, 12] (fun out i wr => ∃ k : Nat, k ≤ p.bed.length ∧ i = .int .i64 k ∧ (∃ A c, out = .slice A k c ∧ wr.ownsRow V.heap.size 3 1 (.slice A k c) k (intCells (gapL p l t k))) ∧ Below V.heap.size V wr) (fun _ i _ => p.bed.length - (intOf i).toNat)
  case atStart => exact ⟨0, Nat.zero_le _, rfl, ⟨none, 0, rfl, World.ownsRow_nil _ _ _ _⟩, Below.refl _ _⟩
  case round =>
    obtain ⟨k, hk, rfl, ⟨A, c, rfl, ho⟩, hB⟩ := hrel
    by_cases hlt : k < p.bed.length
    · have q2 : (k : Int) < p.bed.length := by omega
      obtain ⟨g1, g2, g3, g4, g5, g6⟩ := HOK.out
      have hkk : k < p.f.kinds.length := by omega
      have hov := over_lt g1 (t := t) hkk
      have e1 := g4 _ (getD_mem 0 hlt)
      have e2 := g5 _ (getD_mem 0 (show overN p k t < p.run.length by omega))
      obtain ⟨b2, o2, ha2, hb2, hc2⟩ := hp.b.intD (by omega)
      obtain ⟨b3, o3, ha3, hb3, hc3⟩ := hp.r.intD (by omega)
      have hBw := hB0.trans (hB.mono hB0.size)
      have d2 := keepc hBw (hc2 k hlt)
      have d3 := keepc hBw (hc3 (overN p k t) (by omega))
      have x2 := (X.keep hB).cell 2
      simp at x2
      have hO : (overN p k t : Int) = (k : Int) / S * S + ((k : Int) % S - t + S) % S := by
        unfold overN
        rw [hSo.out, Int.toNat_natCast]
        rw [Int.natCast_add, Int.natCast_mul, Int.natCast_ediv, Int.natCast_emod, Int.natCast_sub (by omega)]
        congr 2
        rw [Int.natCast_add, Int.natCast_emod]
        omega
      replace hO := hO.symm
      rw [Int.add_emod_right] at hO
      have HGS : Hid (gapL p l t (k + 1) = gapL p l t k ++ [l - p.bed.getD k 0 - p.run.getD (overN p k t) 0]) := by
        refine Lib.hid ?_
        rw [gapL_succ]
        unfold sumV
        congr 2
        omega
      have hm1 : 0 ≤ (k : Int) % S ∧ (k : Int) % S < S := ⟨Int.emod_nonneg _ (by omega), Int.emod_lt_of_pos _ (by omega)⟩
      have hm2 : 0 ≤ ((k : Int) % S - t + S) % S ∧ ((k : Int) % S - t + S) % S < S := ⟨Int.emod_nonneg _ (by omega), Int.emod_lt_of_pos _ (by omega)⟩
      have hd1 : 0 ≤ (k : Int) / S := Int.ediv_nonneg (by omega) (by omega)
      have hd2 : (k : Int) / S * S ≤ k := by have := Int.mul_ediv_add_emod (k : Int) S; rw [Int.mul_comm] at this; omega
      have hd3 : 0 ≤ (k : Int) / S * S := Int.mul_nonneg hd1 (by omega)
      have hd4 : (k : Int) / S ≤ k := Int.ediv_le_self _ (by omega)
      have hn1 : 0 ≤ (k : Int) % S - t + S ∧ (k : Int) % S - t + S ≤ 1000 := by omega
      have hsz : ((S : Int) == 0) = false := by simp; omega
      have q3 : (overN p k t : Int) < p.run.length := by omega
      have hrl : p.run.length ≤ 2304 := by omega
      have hkl : k ≤ 2304 := by omega
      rw [ha2, ha3]
      clear ha2 ha3
      have HHO := Lib.hid (And.intro ho (And.intro hB (And.intro hb2 hb3)))
      clear hc2 hc3 g1 g2 g3 g4 g5 g6 hov hBw hkk
      generalize p.run.getD (overN p k t) 0 = y at *
      generalize p.bed.getD k 0 = x at *
      generalize overN p k t = o at *
      generalize hmm : (k : Int) % S = m at *
      generalize hdd : (k : Int) / S = d at *
      have hw0 := IntWalk.i64_in d (by omega)
      have hw2 := IntWalk.i64_in (d * S) (by omega)
      go_upto_region 5 with fail
      go_quiet (fail)
      go_upto_region 6 with fail
      have hS0 : S ≠ 0 := by omega
      have hw1 := IntWalk.i64_in (m - t) (by omega)
      have hw3 := IntWalk.i64_in (m - t + S) (by omega)
      have hw4 := IntWalk.i64_in (o : Int) (by omega)
      have hw5 : (m - t + S).tmod S = (m - t + S) % S := Int.tmod_eq_emod_of_nonneg hn1.1
      go_quiet (fail)
      go_upto_region 7 with fail
      rename_i nq0
      obtain ⟨wq, hwq⟩ : ∃ W, (wr.drewN nq0).drewN nq = W := ⟨_, rfl⟩
      have e2' : wq.cell? ⟨b2, o2 + k, none⟩ = some (.int .i64 x) := by rw [← hwq]; exact d2
      have e3' : wq.cell? ⟨b3, o3 + o, none⟩ = some (.int .i64 y) := by rw [← hwq]; exact d3
      have ho' : wq.ownsRow V.heap.size 3 1 (.slice A k c) k (intCells (gapL p l t k)) := by rw [← hwq]; exact HHO.out.1
      have hB' : Below V.heap.size V wq := by rw [← hwq]; exact below_drewN (below_drewN HHO.out.2.1 _) _
      rw [hwq]
      have hw6 := IntWalk.i64_in (l - x) (by omega)
      have hw7 := IntWalk.i64_in (l - x - y) (by omega)
      have l2 := World.block_lt_of_cell? wq _ e2'
      have l3 := World.block_lt_of_cell? wq _ e3'
      have hBz := hB'.size
      clear hwq d2 d3 x2 HHO
      have hBa : Below wq.heap.size wq ((wq.alloc (.cells #[.int .i64 (l - x - y)] 3)).drew) := ((Below.refl wq.heap.size wq).alloc (Nat.le_refl _) (.cells #[.int .i64 (l - x - y)] 3)).drew
      obtain ⟨v6, w6, hr, hown6, hgrow, _, _⟩ := run_append_own_at (P := Try.prog) ((wq.alloc (.cells #[.int .i64 (l - x - y)] 3)).drew) V.heap.size 22 22 3 j0 _ 1 8 Try.underlying22 hj0 jz0 jz1 jz2 rfl (by omega) (.slice A k c) k (intCells (gapL p l t k)) (ho'.alloc _).drew ⟨wq.heap.size, 0, none⟩ 1 1 [.int .i64 (l - x - y)] (by rfl) (cell_one_new _ _ _) (by simp [Value.oneCell']) (by unfold maxLen; omega) (by omega) (by simp; omega)
      obtain ⟨A6, c6, rfl, _, _, _⟩ := own_form hown6
      replace hr : (appendH #[22, 22] 22 #[.slice A k c, .slice (some ⟨wq.heap.size, 0, none⟩) 1 1]).run Try.prog ((wq.alloc (.cells #[.int .i64 (l - x - y)] 3)).drew) = .ok (.slice A6 (k + 1) c6) w6 := hr
      have hB6 : Below V.heap.size V w6 := (hB'.trans (hBa.mono hBz)).grown hgrow (by have := hBa.size; omega) (fun r e => (ho'.lt r e).1)
      rw [show intCells (gapL p l t k) ++ [.int .i64 (l - x - y)] = intCells (gapL p l t (k + 1)) by rw [HGS.out]; simp [intCells]] at hown6
      have HO6 := Lib.hid (And.intro hown6 hB6)
      clear hown6 hB6 hgrow hBa ho' hB'
      go_region
      go_wp2_with fail
      go_roundw
      case rel => exact ⟨k + 1, by omega, by go_num, ⟨A6, c6, rfl, HO6.out.1⟩, HO6.out.2⟩
      case measure => simp [intOf]; omega
    · obtain rfl : k = p.bed.length := by omega
      go_wp2_with fail
      go_ret
      exact ⟨_, rfl, own_base ho (by have := HVz.out; omega), hB0.trans (hB.mono hB0.size)⟩

end Go.Proofs.Ythmngnfdfelkeaa
