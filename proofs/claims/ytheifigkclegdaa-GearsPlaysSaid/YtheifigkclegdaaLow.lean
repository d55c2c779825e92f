/-
  What is proved: contracts of the specification's functions that lay out the wheels of a train and bring products to lowest terms.
-/
import Derived.Test.YtheifigkclegdaaStands
import Derived.Test.YtheifigkclegdaaSame
import Derived.Maps.AppendAt
import Derived.Deep.Upon
namespace Go.Proofs.Ytheifigkclegdaa
open Go.RowKit
attribute [local go_sem] Res.val

/-- Two values that own no block in common. -/
def Apart (u v : Value) : Prop := ∀ g, u.ownBlock = some g → v.ownBlock = some g → False
theorem Apart.symm {u v : Value} (h : Apart u v) : Apart v u := fun g a b => h g b a
theorem Apart.row {u v : Value} (h : Apart u v) : v.ownBlock = none ∨ v.ownBlock ≠ u.ownBlock := by
  cases hv : v.ownBlock with
  | none => exact .inl rfl
  | some g => exact .inr fun e => h g e.symm hv
theorem Apart.next {u u' v : Value} {n : Nat} (h : Apart u v) (hu : u'.ownBlock = u.ownBlock ∨ u'.ownBlock = some n) (hv : ∀ g, v.ownBlock = some g → g < n) : Apart u' v := by
  intro g a b
  rcases hu with hu | hu
  · exact h g (hu ▸ a) b
  · rw [hu] at a
    injection a with a
    have := hv g b
    omega
theorem Apart.nil (v : Value) : Apart (.slice none 0 0) v := fun g a => by simp [Value.ownBlock] at a

def natCells (l : List Nat) : List Value := l.map fun n : Nat => .int .i64 (n : Int)
theorem natCells_len (l : List Nat) : (natCells l).length = l.length := by simp [natCells]
theorem natCells_get (l : List Nat) (k : Nat) (hk : k < l.length) : (natCells l)[k]? = some (.int .i64 (l[k] : Nat)) := by simp [natCells, hk]
theorem natCells_set (l : List Nat) (i x : Nat) : (natCells l).set i (.int .i64 (x : Nat)) = natCells (l.set i x) := by simp [natCells, List.map_set]
theorem natCells_one (l : List Nat) : ∀ u ∈ natCells l, u.oneCell' = true := by
  intro u hu
  obtain ⟨x, _, rfl⟩ := List.mem_map.1 hu
  rfl
theorem intCells_one (l : List Int) : ∀ u ∈ intCells l, u.oneCell' = true := by
  intro u hu
  obtain ⟨x, _, rfl⟩ := List.mem_map.1 hu
  rfl

theorem own_form {w : World} {base : Nat} {e : TypeId} {size : Nat} {v : Value} {n : Nat} {xs : List Value} (h : w.ownsRow base e size v n xs) :
    ∃ A c, v = .slice A n c ∧ n ≤ c ∧ RowAt w A xs ∧ ∀ g, v.ownBlock = some g → base ≤ g ∧ g < w.heap.size := by
  have hl := h.lt
  have hlen := h.1
  rcases h.2 with ⟨rfl, rfl⟩ | ⟨g, cap, cur, rfl, hb, hg, hnc, _, hs, ht⟩
  · refine ⟨none, 0, rfl, Nat.le_refl _, fun h0 => ?_, hl⟩
    simp at hlen
    simp [hlen] at h0
  · refine ⟨some ⟨g, 0, none⟩, cap, rfl, hnc, fun _ => ⟨g, 0, rfl, (Array.getElem?_eq_some_iff.1 hg).1, fun j u hu => ?_⟩, hl⟩
    rw [Nat.zero_add, cell_of_row w g j cur e (0, 0) hg]
    rw [← ht, List.getElem?_take] at hu
    split at hu
    · simpa using hu
    · cases hu

theorem World.grownBy_refl (w : World) (row : Option Nat) : w.grownBy w row := ⟨rfl, rfl, rfl, Nat.le_refl _, fun _ _ _ => rfl⟩

set_option maxRecDepth 100000 in
/-- append(v, l...) where l may be nil. -/
theorem wpList_append_row (w : World) {ops : Array Oper} {rest : List Oper} {o : Oper} {a : Act} {Q : Exit → Act → World → Prop} (hgd : o.guard = none) (s x : Operand) (t : TypeId)
    (ho : o.op = .call { callee := .builtin .append, args := #[s, x], argTypes := #[t, t] })
    (base : Nat) (e : TypeId) (i : TypeInfo) (z : Value) (size bytes : Nat) (ht : Try.prog.underlying t = some (.slice e)) (hi : Try.prog.info? e = some i) (hz : i.zero = some z)
    (hsize : i.size = size) (hby : i.bytes = bytes) (hzs : z.cells.size = size) (hsz : 0 < size)
    (v : Value) (n : Nat) (xs : List Value) (hs : a.eval s = v) (hown : w.ownsRow base e size v n xs)
    (A : Option Addr) (m c : Nat) (news : List Value) (hx : a.eval x = .slice A m c) (hA : RowAt w A news) (hl : news.length = m * size) (h1 : ∀ u ∈ news, u.oneCell' = true)
    (h63 : n + m ≤ maxLen) (hbytes : (n + m) * bytes ≤ 140737488355328) (hbase : base ≤ w.heap.size)
    (h : ∀ v' w', w'.ownsRow base e size v' (n + m) (xs ++ news) → w.grownBy w' v.ownBlock → (v'.ownBlock = v.ownBlock ∨ v'.ownBlock = some w.heap.size) → wpList Try.prog ops Q rest (a.put o.dst v') w') :
    wpList Try.prog ops Q (o :: rest) a w := by
  cases A with
  | some ad =>
    refine wpList_append_own_at w hgd s x t ho base e i z size bytes ht hi hz hsize hby hzs hsz v n xs hs hown ad m c news hx hl ?_ h1 h63 hbytes hbase (fun v' w' h1 h2 _ h4 => h v' w' h1 h2 h4)
    intro j u hu
    have h0 : 0 < news.length := Nat.lt_of_le_of_lt (Nat.zero_le _) (List.getElem?_eq_some_iff.1 hu).1
    obtain ⟨b, off, e, _, hc⟩ := hA h0
    injection e with e
    subst e
    rw [add_at]
    exact hc j u hu
  | none =>
    have hm : m = 0 := by
      rcases Nat.eq_zero_or_pos m with h | h
      · exact h
      · have h0 : 0 < news.length := by rw [hl]; exact Nat.mul_pos h hsz
        obtain ⟨_, _, e, _⟩ := hA h0
        cases e
    subst hm
    have hnil : news = [] := List.length_eq_zero_iff.1 (by rw [hl, Nat.zero_mul])
    subst hnil
    obtain ⟨A', c', rfl, hc', _, _⟩ := own_form hown
    refine wpList_plain hgd fun K hK => ?_
    have hrun := run_append_nothing (P := Try.prog) w t t o.type e i ht hi A' n c' hc' (.slice none 0 c) (Src.ofNil w ht c)
    unfold Oper.wp
    simp [execOp, ho, resolve, invoke, builtin, hs, hx, hrun, Result.andThen]
    exact hK _ _ (h _ w (by simpa using hown) (World.grownBy_refl w _) (.inl rfl))

/-! ### held -/

def heldN (l : List Nat) : Nat := if pr l ≤ 1000000000 then pr l else 1000000001

theorem RowAt.nat {w : World} {A : Option Addr} {xs : List Nat} (h : RowAt w A (natCells xs)) (h0 : 0 < xs.length) :
    ∃ b off, A = some ⟨b, off, none⟩ ∧ b < w.heap.size ∧ ∀ k (hk : k < xs.length), w.cell? ⟨b, off + k, none⟩ = some (.int .i64 (xs[k] : Nat)) := by
  obtain ⟨b, off, e, hb, hc⟩ := h (by rw [natCells_len]; exact h0)
  exact ⟨b, off, e, hb, fun k hk => hc k _ (natCells_get xs k hk)⟩

set_option maxHeartbeats 1000000 in
theorem held_any (A : Option Addr) (c : Nat) (l : List Nat) (w : World) (hx : RowAt w A (natCells l)) (hn : l.length ≤ 65536) (hpos : ∀ x ∈ l, 1 ≤ x) (hle : ∀ x ∈ l, x ≤ 9223372036854775807) :
    Calls Try.prog 92 #[.slice A l.length c] w fun e w' => e = .returned (.int .i64 (heldN l : Nat)) ∧ w' = w := by
  have H := Lib.hid (And.intro hpos hle)
  clear hpos hle
  go_enter Try.func92, Try.ntmps92
  go_wp2
  go_loop [3, 4] (fun n i => ∃ k : Nat, k ≤ l.length ∧ i = .int .i64 k ∧ n = .int .i64 (pr (l.take k) : Nat) ∧ pr (l.take k) ≤ 1000000000) (fun _ i => l.length - (intOf i).toNat)
  case atStart => exact ⟨0, Nat.zero_le _, rfl, rfl, by simp [pr]⟩
  case round =>
    obtain ⟨k, hk, rfl, rfl, hle⟩ := hrel
    by_cases hlt : k < l.length
    · obtain ⟨b, off, hA, hb, hc⟩ := hx.nat (by omega)
      have c0 := hc k hlt
      clear hc
      rw [hA]
      clear hA
      have h1 := H.out.1 l[k] (List.getElem_mem hlt)
      have h2 := H.out.2 l[k] (List.getElem_mem hlt)
      have p1 : 1 ≤ pr (l.take k) := pr_pos _ fun x hx => H.out.1 x (List.mem_of_mem_take hx)
      have hs := pr_take_succ l k hlt
      have hbig : 1000000000 < pr (l.take k) * l[k] → ¬ pr l ≤ 1000000000 := fun h => by
        have := pr_take_le l (k + 1) H.out.1
        rw [hs] at this
        omega
      have HS := Lib.hid (And.intro hs hbig)
      clear hs hbig
      have hcut : (1000000000 : Int) / (l[k] : Nat) < (pr (l.take k) : Nat) ↔ 1000000000 < pr (l.take k) * l[k] := by
        have e : (1000000000 : Int) / (l[k] : Nat) = ((1000000000 / l[k] : Nat) : Int) := by rw [Int.natCast_ediv]; rfl
        rw [e]
        have := Nat.div_lt_iff_lt_mul (x := 1000000000) (y := pr (l.take k)) (show 0 < l[k] by omega)
        omega
      have HC := Lib.hid hcut
      clear hcut
      generalize l[k] = x at *
      generalize pr (l.take k) = p at *
      have e1 : 0 ≤ (1000000000 : Int) / (x : Int) := Int.ediv_nonneg (by omega) (by omega)
      have e2 : (1000000000 : Int) / (x : Int) ≤ 1000000000 := Int.ediv_le_self _ (by omega)
      have x0 : ((x : Int) == 0) = false := by simp; omega
      by_cases hg : (1000000000 : Int) / (x : Int) < (p : Int)
      · have hg' : decide ((1000000000 : Int) / (x : Int) < (p : Int)) = true := by simpa using hg
        go_wp2
        go_ret
        exact ⟨ret_int (by rw [heldN, if_neg (HS.out.2 (HC.out.1 hg))]; rfl), rfl⟩
      · have hg' : decide ((1000000000 : Int) / (x : Int) < (p : Int)) = false := by simpa using hg
        have hp : p * x ≤ 1000000000 := by have := HC.out; omega
        have m1 : (p : Int) * x ≤ 1000000000 := by rw [← Int.natCast_mul]; omega
        have m2 : 0 ≤ (p : Int) * x := Int.mul_nonneg (by omega) (by omega)
        go_wp2
        go_round
        case rel => exact ⟨k + 1, by omega, by go_num, by rw [HS.out.1]; simp, by rw [HS.out.1]; exact hp⟩
        case measure => simp [intOf]; omega
    · have : k = l.length := by omega
      subst this
      rw [List.take_of_length_le (by omega)] at hle ⊢
      go_wp2
      go_ret
      exact ⟨ret_int (by rw [heldN, if_pos hle]), rfl⟩

end Go.Proofs.Ytheifigkclegdaa
