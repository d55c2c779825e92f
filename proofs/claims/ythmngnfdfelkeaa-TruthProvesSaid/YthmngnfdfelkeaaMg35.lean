/-
  What is proved: the contract of truth.Nodes.
  What is proved: the contract of truth.bare.
-/
import Derived.Test.YthmngnfdfelkeaaMg34
import Derived.Test.YthmngnfdfelkeaaLawAMg
import Derived.Laws.OwnMore
import Derived.Test.YthmngnfdfelkeaaAwakeMg
namespace Go.Proofs.Ythmngnfdfelkeaa
open Go.RowKit
attribute [local go_sem ↓] max_int min_int append_hid

theorem treeInfo : (Try.prog.info? 49).map (fun i => (i.zero, i.size, i.bytes)) = some (some (.agg #[.int .i64 0, .int .i64 0, .int .i64 0, .int .i64 0, .int .i64 0, .slice none 0 0]), 6, 64) := by kernel_rfl

/-- An owned row, cut by its last element. -/
theorem own_cut {w : World} {base : Nat} {e : TypeId} {size g n cap : Nat} {xs ys : List Value} (h : w.ownsRow base e size (.slice (some ⟨g, 0, none⟩) (n + 1) cap) (n + 1) (xs ++ ys)) (hx : xs.length = n * size) :
    w.ownsRow base e size (.slice (some ⟨g, 0, none⟩) n cap) n xs := by
  refine ⟨hx, ?_⟩
  rcases h.2 with ⟨h1, _⟩ | ⟨g', cap', cur, h1, h2, h3, h4, h5, h6, h7⟩
  · cases h1
  · simp only [Value.slice.injEq, Option.some.injEq, Addr.mk.injEq, and_true, true_and] at h1
    obtain ⟨rfl, rfl⟩ := h1
    refine .inr ⟨g, cap, cur, rfl, h2, h3, by omega, h5, h6, ?_⟩
    have e : cur.toList.take (n * size) = (cur.toList.take ((n + 1) * size)).take (n * size) := by
      rw [List.take_take, Nat.min_eq_left (Nat.mul_le_mul_right _ (by omega))]
    rw [e, h7, ← hx, List.take_left]

theorem kidCells_len (l : List Tr) : (kidCells l).length = l.length * 6 := flat_len _ 6 Tr.cells_len l
theorem kidCells_app (a b : List Tr) : kidCells (a ++ b) = kidCells a ++ kidCells b := by simp [kidCells]
theorem kidCells_one (l : List Tr) : ∀ u ∈ kidCells l, u.oneCell' = true := by
  intro u hu
  obtain ⟨t, _, ht⟩ := List.mem_flatMap.1 hu
  obtain ⟨k, p, a, way, A, c, kids⟩ := t
  simp only [Tr.cells, List.mem_cons, List.not_mem_nil, or_false] at ht
  rcases ht with rfl | rfl | rfl | rfl | rfl | rfl <;> rfl

theorem list_last {α : Type} {l : List α} (h : 0 < l.length) : ∃ a x, l = a ++ [x] := by
  rcases List.eq_nil_or_concat l with rfl | ⟨a, x, rfl⟩
  · simp at h
  · exact ⟨a, x, by simp⟩

/-- The append of a tree's kids to an owned list. -/
theorem append_kids {W : World} {base q : Nat} {v : Value} {l kids : List Tr} {B : Option Addr} {c n : Nat} (hn : l.length = n) (hown : W.ownsRow base 49 6 v n (kidCells l)) (hk : RowNe W q B (kidCells kids)) (hB : B = none → kids = [] ∧ c = 0)
    (hl : l.length + kids.length ≤ 1000000) (hb : base ≤ W.heap.size) :
    ∃ v' W', (appendHid #[47, 47] 47 #[v, .slice B kids.length c]).run Try.prog W = .ok v' W' ∧ W'.ownsRow base 49 6 v' (l ++ kids).length (kidCells (l ++ kids)) ∧ W.grownBy W' v.ownBlock := by
  subst hn
  obtain ⟨i, hi, h1, h2, h3⟩ := info_parts treeInfo
  cases B with
  | none =>
    obtain ⟨rfl, rfl⟩ := hB rfl
    refine ⟨v, W, run_append_owned_none W base 47 47 49 i 6 Try.underlying47 hi v _ _ hown, by simpa using hown, World.grownBy_refl _ _⟩
  | some a =>
    have hnews : ∀ (j : Nat) (u : Value), (kidCells kids)[j]? = some u → W.cell? (a.add j) = some u := by
      intro j u hj
      have h0 : 0 < (kidCells kids).length := by have := (List.getElem?_eq_some_iff.1 hj).1; omega
      obtain ⟨b, off, e, _, _, hc⟩ := hk h0
      replace e := Option.some.inj e
      subst e
      rw [add_at]
      exact hc j u hj
    obtain ⟨v', W', hr, ho, hg, _, _⟩ := run_append_own_at (P := Try.prog) W base 47 47 49 i _ 6 64 Try.underlying47 hi h1 h2 h3 rfl (by omega) v l.length (kidCells l) hown a kids.length c (kidCells kids) (kidCells_len _) hnews (kidCells_one _) (Nat.le_trans hl (by unfold maxLen; decide)) (by omega) hb
    refine ⟨v', W', by rw [← append_hid]; exact hr, ?_, hg⟩
    rw [List.length_append, kidCells_app]
    exact ho

set_option maxRecDepth 100000 in
set_option maxHeartbeats 8000000 in
theorem nodesT_any (q : Nat) (t : Tr) (w : World) (ht : TrAt w q t) (hs : sizeT t ≤ 200000) :
    Calls Try.prog 58 #[t.val] w fun e w' => e = .returned (.int .i64 (sizeT t)) ∧ Below w.heap.size w w' := by
  obtain ⟨T, hT⟩ : ∃ T, T = t := ⟨t, rfl⟩
  obtain ⟨S, hS⟩ : ∃ S, sizeT t = S := ⟨_, rfl⟩
  rw [hS] at hs ⊢
  obtain ⟨k, p, a, ⟨wx, wy⟩, A, c, kids⟩ := t
  obtain ⟨U, hU⟩ : ∃ U, (w.alloc (.cells #[.int .i64 k, .int .i64 p, .int .i64 a, .int .i64 wx, .int .i64 wy, .slice A kids.length c] 49)).alloc (.cells #[.int .i64 k, .int .i64 p, .int .i64 a, .int .i64 wx, .int .i64 wy, .slice A kids.length c] 49) = U := ⟨_, rfl⟩
  have hB : Below w.heap.size w U := by rw [← hU]; exact ((Below.refl _ _).alloc (Nat.le_refl _) _).alloc (by simp) _
  have ho : U.ownsRow w.heap.size 49 6 (.slice (some ⟨w.heap.size + 1, 0, none⟩) 1 1) 1 (kidCells [T]) := by
    have h := World.ownsRow_lit (base := w.heap.size) (e := 49) (size := 6) (w.alloc (.cells #[.int .i64 k, .int .i64 p, .int .i64 a, .int .i64 wx, .int .i64 wy, .slice A kids.length c] 49)) #[.int .i64 k, .int .i64 p, .int .i64 a, .int .i64 wx, .int .i64 wy, .slice A kids.length c] 1 (by simp) (by unfold maxLen; decide) rfl
    rw [hU] at h
    have e : (w.alloc (.cells #[.int .i64 k, .int .i64 p, .int .i64 a, .int .i64 wx, .int .i64 wy, .slice A kids.length c] 49)).heap.size = w.heap.size + 1 := by simp
    rw [e] at h
    rw [hT]
    exact h
  rw [← hT] at ht hS
  have HT := Lib.hid (And.intro ht hS)
  have HU := Lib.hid hU
  show Calls Try.prog 58 #[.agg #[.int .i64 k, .int .i64 p, .int .i64 a, .int .i64 wx, .int .i64 wy, .slice A kids.length c]] w _
  clear hT hU ht hS
  go_enter Try.func58, Try.ntmps58
  go_upto_region 3 with fail
  rw [HU.out]
  clear HU
  go_loopw [3, 4] (fun n todo wr => ∃ (l : List Tr) (B : Option Addr) (c' : Nat), n = .int .i64 ((S : Int) - sizeL l) ∧ todo = .slice B l.length c' ∧ wr.ownsRow w.heap.size 49 6 (.slice B l.length c') l.length (kidCells l) ∧ (∀ x ∈ l, TrAt w q x) ∧ sizeL l ≤ S ∧ Below w.heap.size w wr) (fun n _ _ => S + 1 - (intOf n).toNat)
  case atStart => exact ⟨[T], _, _, by simp [sizeL, HT.out.2], rfl, ho, by simpa using HT.out.1, by simp [sizeL, HT.out.2], hB⟩
  case round =>
    clear ho hB
    obtain ⟨l, B, c', rfl, rfl, ho, hl, hsl, hB⟩ := hrel
    have hln := sizeL_len l
    have hn2 : (S : Int) - sizeL l ≤ 200000 := by omega
    have hlb : l.length ≤ 200000 := by omega
    rcases Nat.eq_zero_or_pos l.length with h0 | h0
    · obtain rfl : l = [] := List.eq_nil_of_length_eq_zero h0
      have e : (S : Int) - (sizeL ([] : List Tr) : Nat) = S := by simp [sizeL]
      have hm : min (S : Int) 200001 = S := by omega
      rw [e]
      clear ho hl hn2 e
      go_wp2_with fail
      go_ret
      exact ⟨rfl, hB⟩
    · obtain ⟨l', x, rfl⟩ := list_last h0
      have e1 : (l' ++ [x]).length = l'.length + 1 := by simp
      have hlx : sizeL (l' ++ [x]) = sizeL l' + sizeT x := by rw [sizeL_app]; simp [sizeL]
      rw [e1] at ho hlb hln ⊢
      rw [hlx] at hsl hn2 hln ⊢
      rw [kidCells_app] at ho
      have hx := hl x (by simp)
      have hl2 : ∀ y ∈ l', TrAt w q y := fun y hy => hl y (by simp [hy])
      have hxp := sizeT_pos x
      obtain ⟨xk, xp, xa, ⟨xwx, xwy⟩, xA, xc, xks⟩ := x
      obtain ⟨g, hg1, hg2⟩ : ∃ g, B = some ⟨g, 0, none⟩ ∧ w.heap.size ≤ g ∧ g < wr.heap.size := by
        rcases ho.2 with ⟨h1, _⟩ | ⟨g, cap, cur, h1, h2, h3, _⟩
        · cases h1
        · simp only [Value.slice.injEq] at h1
          exact ⟨g, h1.1, h2, (Array.getElem?_eq_some_iff.1 h3).1⟩
      subst hg1
      have hcap := own_cap ho
      have hcut := own_cut ho (kidCells_len l')
      have hcell : ∀ j, j < 6 → wr.cell? ⟨g, l'.length * 6 + j, none⟩ = (Tr.cells (.mk xk xp xa (xwx, xwy) xA xc xks))[j]? := fun j hj => by
        rw [ho.cellAt _ (by omega), List.getElem?_append_right (by rw [kidCells_len]; omega), kidCells_len]
        simp [kidCells]
      have d0 : wr.cell? ⟨g, l'.length * 6, none⟩ = some (.int .i64 xk) := hcell 0 (by omega)
      have d1 : wr.cell? ⟨g, l'.length * 6 + 1, none⟩ = some (.int .i64 xp) := hcell 1 (by omega)
      have d2 : wr.cell? ⟨g, l'.length * 6 + 2, none⟩ = some (.int .i64 xa) := hcell 2 (by omega)
      have d3 : wr.cell? ⟨g, l'.length * 6 + 3, none⟩ = some (.int .i64 xwx) := hcell 3 (by omega)
      have d4 : wr.cell? ⟨g, l'.length * 6 + 4, none⟩ = some (.int .i64 xwy) := hcell 4 (by omega)
      have d5 : wr.cell? ⟨g, l'.length * 6 + 5, none⟩ = some (.slice xA xks.length xc) := hcell 5 (by omega)
      have hidx : ((l'.length + 1 : Nat) : Int) - 1 = l'.length := by omega
      have hI : (l'.length : Int) < (l'.length + 1 : Nat) := by omega
      have HO := Lib.hid (And.intro ho (And.intro hcut (And.intro hx (And.intro hl2 (And.intro hB (And.intro hsl hlx))))))
      clear ho hcut hx hl hl2 hB hcell hlx
      generalize hn' : l'.length = n' at *
      have hw := IntWalk.i64_in (n' : Int) (by omega)
      go_upto_region 5 with fail
      have hba : Below wr.heap.size wr (wr.alloc (.cells #[.int .i64 xk, .int .i64 xp, .int .i64 xa, .int .i64 xwx, .int .i64 xwy, .slice xA xks.length xc] 49)).drew := ((Below.refl wr.heap.size wr).alloc (Nat.le_refl _) _).drew
      obtain ⟨hr1, hk1, hno⟩ : RowNe w q xA (kidCells xks) ∧ (∀ y ∈ xks, TrAt w q y) ∧ (xA = none → xks = [] ∧ xc = 0) := by
        have := HO.out.2.2.1
        cases this with
        | mk a b c d => exact ⟨a, c, d⟩
      have hB := HO.out.2.2.2.2.1
      have hsz : sizeT (Tr.mk xk xp xa (xwx, xwy) xA xc xks) = 1 + sizeL xks := by simp only [sizeT]
      have hkl := sizeL_len xks
      obtain ⟨v6, w6, hr, ho6, hg6⟩ := append_kids (W := (wr.alloc (.cells #[.int .i64 xk, .int .i64 xp, .int .i64 xa, .int .i64 xwx, .int .i64 xwy, .slice xA xks.length xc] 49)).drew) (kids := xks) (B := xA) (c := xc) hn' ((HO.out.2.1.alloc _).drew) (hr1.below (hB.trans (hba.mono hB.size))) hno (by omega) (by have := hB.size; simp; omega)
      obtain ⟨A6, c6, rfl, _, _, _⟩ := own_form ho6
      have hB6 := (hB.trans (hba.mono hB.size)).grown hg6 (by have := hB.size; simp; omega) (fun r e => by have := (HO.out.2.1.lt r e).1; omega)
      have HF := Lib.hid (And.intro ho6 (And.intro hB6 (And.intro hk1 hsz)))
      clear hr1 hk1 hno hba hB hkl hsz ho6 hB6 hg6 d0 d1 d2 d3 d4 d5
      go_region
      go_wp2_with fail
      go_roundw
      case rel =>
        obtain ⟨f1, f2, f3, f4⟩ := HF.out
        have e2 := sizeL_app l' xks
        have hsl2 := HO.out.2.2.2.2.2.1
        refine ⟨l' ++ xks, A6, c6, ?_, by rw [List.length_append, hn'], f1, fun y hy => ?_, by omega, f2⟩
        · rw [e2, f4]; congr 1; omega
        · rcases List.mem_append.1 hy with h | h
          · exact HO.out.2.2.2.1 y h
          · exact f3 y h
      case measure =>
        have hsl2 := HO.out.2.2.2.2.2.1
        simp [intOf]
        omega

end Go.Proofs.Ythmngnfdfelkeaa
namespace Go.Proofs.Ythmngnfdfelkeaa
open Go.RowKit
attribute [local go_sem ↓] max_int min_int

def bareB (p a : Int) (way : Int × Int) (n : Nat) (p2 a2 : Int) (way2 : Int × Int) (n2 : Nat) : Bool := p == p2 && (a == a2 && ((way.1 == way2.1 && way.2 == way2.2) && (n : Int) == n2))

set_option maxRecDepth 100000 in
set_option maxHeartbeats 4000000 in
theorem bare_any (k p a wx wy : Int) (A : Option Addr) (n c : Nat) (k2 p2 a2 wx2 wy2 : Int) (A2 : Option Addr) (n2 c2 : Nat) (w : World) :
    Calls Try.prog 129 #[.agg #[.int .i64 k, .int .i64 p, .int .i64 a, .int .i64 wx, .int .i64 wy, .slice A n c], .agg #[.int .i64 k2, .int .i64 p2, .int .i64 a2, .int .i64 wx2, .int .i64 wy2, .slice A2 n2 c2]] w
      fun e w' => e = .returned (.bool (bareB p a (wx, wy) n p2 a2 (wx2, wy2) n2)) ∧ Below w.heap.size w w' := by
  have E43 := eq43
  have HR : Hid (bareB p a (wx, wy) n p2 a2 (wx2, wy2) n2 = (p == p2 && (a == a2 && ((wx == wx2 && wy == wy2) && (n : Int) == n2)))) := rfl
  generalize bareB p a (wx, wy) n p2 a2 (wx2, wy2) n2 = r at *
  have hB : Below w.heap.size w ((w.alloc (.cells #[.int .i64 k, .int .i64 p, .int .i64 a, .int .i64 wx, .int .i64 wy, .slice A n c] 49)).alloc (.cells #[.int .i64 k2, .int .i64 p2, .int .i64 a2, .int .i64 wx2, .int .i64 wy2, .slice A2 n2 c2] 49)) := ((Below.refl _ _).alloc (Nat.le_refl _) _).alloc (by simp) _
  cases h1 : p == p2
  · rw [h1] at HR
    go_enter Try.func129, Try.ntmps129
    go_wp2
    go_ret
    exact ⟨by rw [HR.out]; rfl, hB⟩
  · cases h2 : a == a2
    · rw [h1, h2] at HR
      go_enter Try.func129, Try.ntmps129
      go_wp2
      go_ret
      exact ⟨by rw [HR.out]; rfl, hB⟩
    · cases h3 : (wx == wx2 && wy == wy2)
      · rw [h1, h2, h3] at HR
        go_enter Try.func129, Try.ntmps129
        go_wp2
        go_ret
        exact ⟨by rw [HR.out]; rfl, hB⟩
      · rw [h1, h2, h3] at HR
        go_enter Try.func129, Try.ntmps129
        go_wp2
        go_ret
        exact ⟨by rw [HR.out]; rfl, hB⟩

end Go.Proofs.Ythmngnfdfelkeaa
