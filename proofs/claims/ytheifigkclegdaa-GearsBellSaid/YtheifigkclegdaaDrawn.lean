/-
  What is proved: contracts of grain.product and Drawn.
-/
import Derived.Test.YtheifigkclegdaaGrain
namespace Go.Proofs.Ytheifigkclegdaa
open Go.RowKit

set_option maxHeartbeats 1000000 in
theorem gproduct_any (a b : Nat) (w : World) (_ha : a ≤ 1000000) (hb : 1 ≤ b) (hb2 : b ≤ 1000000) :
    Calls Try.prog 88 #[.int .i64 a, .int .i64 b, .int .i64 1000000] w fun e w' => e = .returned (.int .i64 (if 1000000 < a * b then 1000000 else a * b : Nat)) ∧ w = w' := by
  have b1 : (0 : Int) < b := by omega
  have bz : ((b : Int) == 0) = false := by simp; omega
  have e1 : (1000000 : Int) / (b : Int) = ((1000000 / b : Nat) : Int) := by rw [Int.natCast_ediv]; rfl
  have hlt : 1000000 / b < a ↔ 1000000 < a * b := Nat.div_lt_iff_lt_mul (by omega)
  have q0 : 0 ≤ (1000000 : Int) / (b : Int) := Int.ediv_nonneg (by omega) (by omega)
  have q1 : (1000000 : Int) / (b : Int) ≤ 1000000 := Int.ediv_le_self _ (by omega)
  by_cases hg : 1000000 < a * b
  · have h1 : (1000000 : Int) / (b : Int) < (a : Int) := by rw [e1]; have := hlt.2 hg; omega
    rw [if_pos hg]
    have hd : decide ((1000000 : Int) / (b : Int) < (a : Int)) = true := by simpa using h1
    clear e1 hlt
    go_enter Try.func88, Try.ntmps88
    go_wp2
    go_ret
    exact ⟨rfl, rfl⟩
  · have h1 : ¬ (1000000 : Int) / (b : Int) < (a : Int) := by
      rw [e1]
      have h2 : ¬ 1000000 / b < a := fun h => hg (hlt.1 h)
      omega
    rw [if_neg hg]
    have hd : decide ((1000000 : Int) / (b : Int) < (a : Int)) = false := by simpa using h1
    have m0 : (a : Int) * b = ((a * b : Nat) : Int) := by simp
    have m1 : 0 ≤ (a : Int) * b := by rw [m0]; omega
    have m2 : (a : Int) * b ≤ 1000000 := by rw [m0]; omega
    clear e1 hlt m0
    go_enter Try.func88, Try.ntmps88
    go_wp2
    go_ret
    exact ⟨ret_int (by simp), rfl⟩

set_option maxRecDepth 100000 in
set_option maxHeartbeats 4000000 in
theorem drawn_ok (h d k n : Nat) (w : World) (hf : okFeed h d k = true) (hn : n ≤ 1000000) :
    Calls Try.prog 50 #[.agg #[.int .i64 h, .int .i64 d, .int .i64 k], .int .i64 n] w fun e w' => e = .returned (.tuple #[.int .i64 (Nat.min h (n * d) : Nat), .int .i64 (h - n * d : Nat), .int .i64 0]) ∧ Below w.heap.size w w' := by
  have hb := okFeed_bounds hf
  have hn2 : inB (n : Int) 0 1000000 = true := by simp [inB]; omega
  obtain ⟨q, hq⟩ : ∃ q, (if 1000000 < n * d then 1000000 else n * d) = q := ⟨_, rfl⟩
  have hmin : Nat.min h q = Nat.min h (n * d) ∧ h - n * d = h - Nat.min h q ∧ q ≤ 1000000 := by
    subst hq
    show Min.min h _ = Min.min h (n * d) ∧ h - n * d = h - Min.min h _ ∧ _
    split <;> omega
  have HC : Hid (∀ W, Calls Try.prog 88 #[.int .i64 n, .int .i64 d, .int .i64 1000000] W fun e w' => e = .returned (.int .i64 (q : Nat)) ∧ W = w') := fun W => by
    rw [← hq]
    exact gproduct_any n d W hn (by omega) (by omega)
  have HM := Lib.hid hmin
  have hq2 := hmin.2.2
  rw [← hmin.1, hmin.2.1]
  clear hmin hq
  generalize hr : Nat.min h q = r at *
  have HR := Lib.hid hr
  clear hr
  have hf2 : Hid (okFeed h d k = true) := hf
  clear hf
  go_enter Try.func50, Try.ntmps50
  go_wp2_with fail
  refine (gvalidFeed_any _ _ _ _).mono ?_
  rintro e w1 ⟨rfl, hb1⟩
  have F : Bk w1 w.heap.size 57 #[.int .i64 h, .int .i64 d, .int .i64 k] := (bk_last rfl).keep hb1
  have hB1 : Below w.heap.size w w1 := ((Below.refl _ _).alloc (Nat.le_refl _) _).trans (hb1.mono (by simp))
  clear hb1
  rw [hf2.out]
  have f0 := F.cell 0
  have f1 := F.cell 1
  simp at f0 f1
  go_wp2_with (go_at_call 87; refine (gwithin_any _ _ _ _).mono ?_; rintro e w' ⟨rfl, rfl⟩)
  refine wp_region_extmix 6 (by kernel_rfl) (by kernel_rfl) (fun _ _ d _ _ h => by cases d <;> exact h) ?_
  simp only [List.take_succ_cons, List.take_zero, List.drop_succ_cons, List.drop_zero]
  have F1 := fun x : Ext w1 => keepc x.bel f0
  have F2 := fun x : Ext w1 => keepc x.bel f1
  clear f0 f1
  repeat (go_big_quiet_step ((go_at_call 88; exact ext_same (HC.out _))))
  refine wpQuiet_nil ?_
  rintro _ ⟨x, rfl⟩
  clear F1 F2
  have hb2 := x.bel
  generalize x.w = w2 at hb2 ⊢
  replace F := F.keep hb2
  have hB2 : Below w.heap.size w w2 := hB1.trans (hb2.mono hB1.size)
  clear hb2 hB1
  have f0 := F.cell 0
  simp at f0
  clear HC HM
  have hr := HR.out
  clear HR
  by_cases hle : h ≤ q
  · have hm : Nat.min h q = h := Nat.min_eq_left hle
    rw [hm] at hr
    subst hr
    clear hm
    by_cases heq : h = q
    · subst heq
      go_wp2_with fail
      go_quiet (fail)
      go_wp2_with fail
      refine bodyPost_ret (v := .tuple #[.int .i64 h, .int .i64 0, .int .i64 0]) (by simp [results, Try.results50, go_sem]) rfl ⟨by simp, below_drewN hB2 _⟩
    · have d1 : decide ((q : Int) < h) = false := by simp; omega
      have d2 : decide ((h : Int) < q) = true := by simp; omega
      go_wp2_with fail
      go_quiet (fail)
      go_wp2_with fail
      refine bodyPost_ret (v := .tuple #[.int .i64 h, .int .i64 0, .int .i64 0]) (by simp [results, Try.results50, go_sem]) rfl ⟨by simp, below_drewN hB2 _⟩
  · have hm : Nat.min h q = q := Nat.min_eq_right (by omega)
    rw [hm] at hr
    subst hr
    clear hm
    have d1 : decide ((q : Int) < h) = true := by simp; omega
    have d2 : decide ((h : Int) < q) = false := by simp; omega
    go_wp2_with fail
    go_quiet (fail)
    go_wp2_with fail
    refine bodyPost_ret (v := .tuple #[.int .i64 q, .int .i64 ((h : Int) - q), .int .i64 0]) (by simp [results, Try.results50, go_sem]) rfl ⟨by simp; omega, below_drewN hB2 _⟩

end Go.Proofs.Ytheifigkclegdaa
