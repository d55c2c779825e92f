/-
  What is proved: the contracts of highest and its inner function.
-/
import Derived.Test.YthmngnfdfelkeaaMost
namespace Go.Proofs.Ythmngnfdfelkeaa
open Go.RowKit
attribute [local go_sem ↓] max_int min_int

set_option maxRecDepth 100000 in
set_option maxHeartbeats 2000000 in
theorem highest1_any (a b g : Nat) (p : Gp) (z : GLoc) (c t : Nat) (w : World) (hA : Bk w a 114 #[.pointer (some ⟨g, 0, none⟩)]) (hC : Bk w b 3 #[.int .i64 c]) (G : Bk w g 154 (p.cells z)) (hp : GpAt w p z) (hok : p.ok = true) (hc : c < p.f.kinds.length) (ht : (t : Int) < p.f.sec) :
    Calls Try.prog 121 #[.int .i64 t, .pointer (some ⟨a, 0, none⟩), .pointer (some ⟨b, 0, none⟩)] w fun e w' => e = .returned (.int .i64 (sumV p c t)) ∧ Below w.heap.size w w' := by
  have HS := Lib.hid (sum_any g p z c t w G hp hok hc ht)
  have a0 := hA.cell 0
  have c0 := hC.cell 0
  simp at a0 c0
  clear G hp hok hc ht
  go_enter Try.func121, Try.ntmps121
  go_wp2_with (go_at_call 87; refine (HS.out).mono ?_; rintro e w1 ⟨rfl, hb1⟩)
  go_ret
  exact ⟨rfl, hb1⟩

/-- The greatest sum of both heights at a cell. -/
def topV (p : Gp) (c : Nat) : Int := mostF (fun t => sumV p c t) p.f.sec.toNat

theorem most_bound {F : Nat → Int} {lo hi : Int} (n : Nat) (h : ∀ i, i < n → lo ≤ F i ∧ F i ≤ hi) (h0 : 1 ≤ n) : lo ≤ mostF F n ∧ mostF F n ≤ hi := by
  have key : ∀ k, k ≤ n → lo ≤ mostF F k ∧ mostF F k ≤ hi := by
    intro k
    induction k with
    | zero => exact fun _ => h 0 (by omega)
    | succ k ih =>
      intro hk
      have h1 := ih (by omega)
      have h2 := h k (by omega)
      simp only [mostF]
      omega
  exact key n (Nat.le_refl _)

theorem top_bound {p : Gp} (h : p.ok = true) {c : Nat} (hc : c < p.f.kinds.length) : -200000 ≤ topV p c ∧ topV p c ≤ 200000 := by
  obtain ⟨_, _, _, _, k5, _⟩ := fac_ok (gp_ok h).1
  exact most_bound _ (fun t _ => sum_bound h hc) (by omega)

set_option maxRecDepth 100000 in
set_option maxHeartbeats 2000000 in
theorem highest_any (g : Nat) (p : Gp) (z : GLoc) (c : Nat) (w : World) (G : Bk w g 154 (p.cells z)) (hp : GpAt w p z) (hok : p.ok = true) (hc : c < p.f.kinds.length) :
    Calls Try.prog 90 #[.pointer (some ⟨g, 0, none⟩), .int .i64 c] w fun e w' => e = .returned (.int .i64 (topV p c)) ∧ Below w.heap.size w w' := by
  obtain ⟨_, _, _, _, k5, k6, _⟩ := fac_ok (gp_ok hok).1
  obtain ⟨S, hS⟩ : ∃ S : Nat, p.f.sec = S := ⟨p.f.sec.toNat, by omega⟩
  have HM : Hid (∀ W : World, Below w.heap.size w W → Bk W w.heap.size 114 #[.pointer (some ⟨g, 0, none⟩)] → Bk W (w.heap.size + 1) 3 #[.int .i64 c] → Calls Try.prog 68 #[.int .i64 S, .func (.func 121) #[] #[.pointer (some ⟨w.heap.size, 0, none⟩), .pointer (some ⟨w.heap.size + 1, 0, none⟩)]] W fun e w' => e = .returned (.int .i64 (topV p c)) ∧ Below W.heap.size W w') := by
    intro W hW hA hC
    unfold topV
    rw [hS, Int.toNat_natCast]
    refine most121_any _ _ _ S (by omega) (by omega) W (fun W' i hb hi => ?_)
    exact highest1_any _ _ g p z c i W' (hA.keep hb) (hC.keep hb) ((G.below hW G.lt).keep hb) ((hp.below hW).below hb) hok hc (by omega)
  have x2 := G.cell 2
  have hgl := G.lt
  simp only [Gp.cells, hS] at x2
  simp at x2
  clear G hp hok hc hS
  have hA : Bk ((w.alloc (.cells #[.pointer (some ⟨g, 0, none⟩)] 114)).alloc (.cells #[.int .i64 c] 3)) w.heap.size 114 #[.pointer (some ⟨g, 0, none⟩)] := (bk_last rfl).alloc _
  have hC : Bk ((w.alloc (.cells #[.pointer (some ⟨g, 0, none⟩)] 114)).alloc (.cells #[.int .i64 c] 3)) (w.heap.size + 1) 3 #[.int .i64 c] := bk_last (by simp)
  have hB : Below w.heap.size w ((w.alloc (.cells #[.pointer (some ⟨g, 0, none⟩)] 114)).alloc (.cells #[.int .i64 c] 3)) := ((Below.refl _ _).alloc (Nat.le_refl _) _).alloc (by simp) _
  have HX := Lib.hid (HM.out _ hB hA hC)
  clear HM hA hC
  go_enter Try.func90, Try.ntmps90
  go_wp2_with (go_at_call 68; refine (HX.out).mono ?_; rintro e w1 ⟨rfl, hb1⟩)
  go_ret
  exact ⟨rfl, hB.trans (hb1.mono hB.size)⟩

end Go.Proofs.Ythmngnfdfelkeaa
