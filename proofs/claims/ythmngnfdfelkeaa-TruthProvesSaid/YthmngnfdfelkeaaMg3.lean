/-
  What is proved: the last step of each law's row: it answers true and only made memory.
  What is proved: the contracts of flat, of stones.Valid and of what they call.
-/
import Derived.Test.YthmngnfdfelkeaaRows
import Derived.ProofKit
import Derived.Carry
import Derived.Lib.SmallJoins
import Derived.Test.YthmngnfdfelkeaaKit
namespace Go.Proofs.Ythmngnfdfelkeaa
open Go.ChangeShapes Go.WideShapes Go.ChangeAt Go.RowKit Go.Joins

section
variable {H : Type} {enc : TypeId × Value → H} {P : Program}
theorem trodAll_keep (hl : laidOutB P = true) {W W' : World} (hb : Below W.heap.size W W') {sp : Nat → Bool} :
    ∀ (ts : List TypeId) (vs : List Value) (ds : List (DataW H)) (ps : List MemPlace), (∀ t ∈ ts, P.readableRec t = true ∧ t < P.types.size) → (∀ x ∈ ps, x.block < W.heap.size) → (∀ x ∈ ps, sp x.block = true) →
      DataW.TrodAll enc P W 0 (fun _ => true) true ts vs ds ps → DataW.TrodAll enc P W' 0 sp true ts vs ds ps
  | [], vs, ds, ps, _, _, _, h => by
    obtain ⟨rfl, rfl, rfl⟩ := trodAll_nil h
    exact rfl
  | t :: ts, vs, ds, ps, ht, hlt, hsp, h => by
    obtain ⟨v, vs', d, ds', p, q, rfl, rfl, rfl, h1, h2⟩ := trodAll_cons h
    refine trodAll_cons_mk (WideElems.Trod_stays hl (ht t (by simp)).1 (ht t (by simp)).2 h1 (fun x hx => hb.same (hlt x (by simp [hx]))) (fun x hx => hsp x (by simp [hx]))) ?_
    exact trodAll_keep hl hb ts vs' ds' q (fun t' h' => ht t' (by simp [h'])) (fun x hx => hlt x (by simp [hx])) (fun x hx => hsp x (by simp [hx])) h2

theorem law_post {f : Func} {s : ChangeSpec} {fresh handsOn again : Bool} {W W' : World} {args : Array Value} {ds gs : List (DataW H)} {before : List MemPlace} (hl : laidOutB P = true)
    (hts : ∀ t ∈ f.params.toList, P.readableRec t = true ∧ t < P.types.size) (hr : f.resultTypes = #[4]) (h4 : P.underlying 4 = some .bool) (hv : s.vars = [])
    (hf1 : (s.fn H (ds ++ gs)).results = [.lit (.bool true)]) (hf2 : (s.fn H (ds ++ gs)).args = ds) (hf3 : (s.fn H (ds ++ gs)).vars = [])
    (hW : DataW.Whole enc P f.params.toList s.vars false W args.toList ds gs before) (hb : Below W.heap.size W W') :
    s.post enc P f false fresh handsOn again W args (.bool true) W' := by
  have hlt : ∀ p ∈ before, p.block < W.heap.size := fun p hp => hW.lt p hp
  have hold : ∀ p ∈ before, (fun b => decide (b < W.heap.size)) p.block = true := fun p hp => by simpa using hlt p hp
  have hW' := hW
  obtain ⟨p, q, hA, hV, rfl, hz, hn⟩ := hW'
  rw [hv] at hV
  obtain ⟨rfl, rfl⟩ := trodVars_none hV
  simp only [List.append_nil] at hlt hold hW hf1 hf2 hf3 hz
  have hres : ∀ (b : Nat) (sp : Nat → Bool) (hd : Bool), DataW.TrodAll enc P W' b sp hd f.resultTypes.toList ((Value.bool true).resultList f.resultTypes.size) (s.fn H (ds ++ [])).results [] := fun b sp hd => by
    rw [List.append_nil, hf1, hr]
    exact trodAll_mk1 (shut_bool h4 true)
  have hargs : ∀ sp : Nat → Bool, (∀ x ∈ p, sp x.block = true) → DataW.TrodAll enc P W' 0 sp true f.params.toList args.toList (s.fn H (ds ++ [])).args p := fun sp hsp => by
    rw [List.append_nil, hf2]
    exact trodAll_keep hl hb _ _ _ _ hts hlt hsp hA
  have hvars : ∀ sp : Nat → Bool, DataW.TrodVars enc P W' sp s.vars (s.fn H (ds ++ [])).vars [] := fun sp => by
    rw [List.append_nil, hf3, hv]
    exact rfl
  refine ⟨ds, [], p, [], p, [], by simpa using hW, hres _ _ _, hargs _ hold, hvars _, World.keptBut_mono (fun x hx => ⟨hx, ?_⟩) (hb.frame (· ∈ p)), fun _ => ?_⟩
  · exact .inr (.inl hx)
  · refine ⟨ok_one hr rfl (okWide_bool_mk h4 true), _, _, ([] ++ p) ++ [], ⟨[] ++ p, [], trodAll_append (hargs _ (fun _ _ => rfl)) (hres _ _ _), hvars _, rfl, ?_, fun h => by cases h⟩, ?_⟩
    · intro b off hp
      have hin : MemPlace.cell b off ∈ p := by simpa using hp
      rw [hb.frozen (hlt _ hin)]
      exact hz b off hin
    · intro x hx _
      simpa using hx
end

end Go.Proofs.Ythmngnfdfelkeaa
namespace Go.Proofs.Ythmngnfdfelkeaa
open Go.RowKit

/-- The first number that is bad, or -1. -/
def firstBad (bad : Int → Bool) (xs : List Int) : Int := match xs.findIdx? bad with | some i => i | none => -1
theorem firstBad_hit (bad : Int → Bool) (xs : List Int) (k : Nat) (hk : k < xs.length) (h : ∀ j (h : j < xs.length), j < k → bad xs[j] = false) (hb : bad xs[k] = true) : firstBad bad xs = k := by
  have e : xs.findIdx? bad = some k := by
    rw [List.findIdx?_eq_some_iff_getElem]
    exact ⟨hk, hb, fun j hj => by simp [h j (by omega) hj]⟩
  simp [firstBad, e]
theorem firstBad_none (bad : Int → Bool) (xs : List Int) (h : ∀ j (h : j < xs.length), j < xs.length → bad xs[j] = false) : firstBad bad xs = -1 := by
  have e : xs.findIdx? bad = none := by
    rw [List.findIdx?_eq_none_iff]
    intro m hm
    obtain ⟨j, hj, rfl⟩ := List.getElem_of_mem hm
    simp [h j hj hj]
  simp [firstBad, e]
theorem firstBad_any (bad : Int → Bool) (xs : List Int) : decide (firstBad bad xs ≥ 0) = xs.any bad := by
  unfold firstBad
  cases e : xs.findIdx? bad with
  | none =>
    rw [List.findIdx?_eq_none_iff] at e
    have h : xs.any bad = false := by rw [List.any_eq_false]; intro m hm; simpa using e m hm
    simp [h]
  | some i =>
    rw [List.findIdx?_eq_some_iff_getElem] at e
    obtain ⟨hi, h1, _⟩ := e
    have h : xs.any bad = true := by
      rw [List.any_eq_true]
      exact ⟨xs[i], List.getElem_mem hi, h1⟩
    simp [h]

theorem not_any (bad : Int → Bool) (xs : List Int) : (!xs.any bad) = xs.all fun x => !bad x := by
  induction xs with
  | nil => rfl
  | cons x xs ih => simp [← ih]

theorem flat1_any (n m : Int) (b : Nat) (w : World) (hb : w.cell? ⟨b, 0, none⟩ = some (.int .i64 m)) (h0 : 0 ≤ m) (h1 : m ≤ 1000000000000000000) :
    Calls Try.prog 113 #[.int .i64 n, .pointer (some ⟨b, 0, none⟩)] w fun e w' => e = .returned (.bool (!inB n (-m) m)) ∧ w = w' := by
  go_enter Try.func113, Try.ntmps113
  go_wp2
  all_goals
    go_ret
    exact ⟨ret_bool (by first | (simp [inB]; done) | (simp [inB]; omega) | (rw [Bool.eq_iff_iff]; simp [inB] <;> omega)), rfl⟩

set_option maxHeartbeats 1000000 in
theorem index113_any (A : Option Addr) (c b : Nat) (m : Int) (xs : List Int) (w : World) (hL : RowAt w A (intCells xs)) (hn : xs.length ≤ 9223372036854775807)
    (hb : w.cell? ⟨b, 0, none⟩ = some (.int .i64 m)) (h0 : 0 ≤ m) (h1 : m ≤ 1000000000000000000) :
    Calls Try.prog 131 #[.slice A xs.length c, .func (.func 113) #[] #[.pointer (some ⟨b, 0, none⟩)]] w fun e w' => e = .returned (.int .i64 (firstBad (fun n => !inB n (-m) m) xs)) ∧ w = w' := by
  go_enter Try.func131, Try.ntmps131
  go_wp2
  go_loop [8] (fun i => ∃ k : Nat, k ≤ xs.length ∧ i = .int .i64 k ∧ Hid (∀ j (h : j < xs.length), j < k → (!inB xs[j] (-m) m) = false)) (fun i => xs.length - (intOf i).toNat)
  case atStart => exact ⟨0, Nat.zero_le _, rfl, fun j _ h => absurd h (by omega)⟩
  case round =>
    obtain ⟨k, hk, rfl, hall⟩ := hrel
    by_cases hlt : k < xs.length
    · obtain ⟨b', off, hA, hb', hc⟩ := hL.int (by omega)
      have c0 := hc k hlt
      clear hc
      rw [hA]
      clear hA
      go_wp2_with (go_at_call 113; refine (flat1_any _ m b _ hb h0 h1).mono ?_; rintro e w1 ⟨rfl, rfl⟩)
      · have hbad : (!inB xs[k] (-m) m) = true := by assumption
        go_ret
        exact ⟨ret_int (firstBad_hit _ xs k hlt hall.out hbad).symm, rfl⟩
      · have hgood : (!inB xs[k] (-m) m) = false := by assumption
        go_round
        case rel =>
          refine ⟨k + 1, by omega, by go_num, fun j hj hjk => ?_⟩
          rcases Nat.lt_or_ge j k with h | h
          · exact hall.out j hj h
          · have : j = k := by omega
            subst this
            exact hgood
        case measure => simp [intOf]; omega
    · have : k = xs.length := by omega
      subst this
      go_wp2
      go_ret
      exact ⟨ret_int (firstBad_none _ xs hall.out).symm, rfl⟩

theorem contains113_any (A : Option Addr) (c b : Nat) (m : Int) (xs : List Int) (w : World) (hL : RowAt w A (intCells xs)) (hn : xs.length ≤ 9223372036854775807)
    (hb : w.cell? ⟨b, 0, none⟩ = some (.int .i64 m)) (h0 : 0 ≤ m) (h1 : m ≤ 1000000000000000000) :
    Calls Try.prog 112 #[.slice A xs.length c, .func (.func 113) #[] #[.pointer (some ⟨b, 0, none⟩)]] w fun e w' => e = .returned (.bool (xs.any (fun n => !inB n (-m) m))) ∧ w = w' := by
  go_enter Try.func112, Try.ntmps112
  go_wp2_with (go_at_call 131; refine (index113_any _ _ _ _ _ _ hL hn hb h0 h1).mono ?_; rintro e w1 ⟨rfl, rfl⟩)
  go_ret
  exact ⟨ret_bool (firstBad_any _ xs), rfl⟩

/-- Numbers from -m to m. -/
def flatB (m : Int) (xs : List Int) : Bool := xs.all fun x => inB x (-m) m
theorem flatB_not (m : Int) (xs : List Int) : (!xs.any (fun n => !inB n (-m) m)) = flatB m xs := by
  rw [not_any]; simp [flatB]

theorem flat_any (A : Option Addr) (c : Nat) (m : Int) (xs : List Int) (w : World) (hL : RowAt w A (intCells xs)) (hn : xs.length ≤ 9223372036854775807) (h0 : 0 ≤ m) (h1 : m ≤ 1000000000000000000) :
    Calls Try.prog 67 #[.int .i64 m, .slice A xs.length c] w fun e w' => e = .returned (.bool (flatB m xs)) ∧ Below w.heap.size w w' := by
  rw [← flatB_not]
  go_enter Try.func67, Try.ntmps67
  go_wp2_with (go_at_call 112; refine (contains113_any _ _ _ m _ _ (hL.alloc _) hn (by simp) h0 h1).mono ?_; rintro e w1 ⟨rfl, rfl⟩)
  go_ret
  exact ⟨rfl, (Below.refl _ _).alloc (Nat.le_refl _) _⟩

theorem swithin_any (n lo hi : Int) (w : World) :
    Calls Try.prog 132 #[.int .i64 n, .int .i64 lo, .int .i64 hi] w fun e w' => e = .returned (.bool (inB n lo hi)) ∧ w = w' := by
  go_enter Try.func132, Try.ntmps132
  go_wp2
  all_goals
    go_ret
    exact ⟨ret_bool (by simp [inB]; try omega), rfl⟩

theorem kind_any (n : Int) (w : World) :
    Calls Try.prog 134 #[.int .i64 n] w fun e w' => e = .returned (.bool (inB n 0 2)) ∧ w = w' := by
  by_cases h0 : n = 0
  · subst h0
    go_enter Try.func134, Try.ntmps134
    go_wp2
    go_ret
    exact ⟨ret_bool (by decide), rfl⟩
  · by_cases h1 : n = 1
    · subst h1
      go_enter Try.func134, Try.ntmps134
      go_wp2
      go_ret
      exact ⟨ret_bool (by decide), rfl⟩
    · by_cases h2 : n = 2
      · subst h2
        go_enter Try.func134, Try.ntmps134
        go_wp2
        go_ret
        exact ⟨ret_bool (by decide), rfl⟩
      · have e0 : (n == 0) = false := by simpa using h0
        have e1 : (n == 1) = false := by simpa using h1
        have e2 : (n == 2) = false := by simpa using h2
        go_enter Try.func134, Try.ntmps134
        go_wp2
        go_ret
        exact ⟨ret_bool (by simp [inB]; omega), rfl⟩

theorem valid1_any (n : Int) (w : World) :
    Calls Try.prog 133 #[.int .i64 n] w fun e w' => e = .returned (.bool (!inB n 0 2)) ∧ w = w' := by
  go_enter Try.func133, Try.ntmps133
  go_wp2_with (go_at_call 134; refine (kind_any _ _).mono ?_; rintro e w1 ⟨rfl, rfl⟩)
  go_ret
  exact ⟨rfl, rfl⟩

set_option maxHeartbeats 1000000 in
theorem index133_any (A : Option Addr) (c : Nat) (xs : List Int) (w : World) (hL : RowAt w A (intCells xs)) (hn : xs.length ≤ 9223372036854775807) :
    Calls Try.prog 131 #[.slice A xs.length c, .func (.func 133) #[] #[]] w fun e w' => e = .returned (.int .i64 (firstBad (fun n => !inB n 0 2) xs)) ∧ w = w' := by
  go_enter Try.func131, Try.ntmps131
  go_wp2
  go_loop [8] (fun i => ∃ k : Nat, k ≤ xs.length ∧ i = .int .i64 k ∧ Hid (∀ j (h : j < xs.length), j < k → (!inB xs[j] 0 2) = false)) (fun i => xs.length - (intOf i).toNat)
  case atStart => exact ⟨0, Nat.zero_le _, rfl, fun j _ h => absurd h (by omega)⟩
  case round =>
    obtain ⟨k, hk, rfl, hall⟩ := hrel
    by_cases hlt : k < xs.length
    · obtain ⟨b', off, hA, hb', hc⟩ := hL.int (by omega)
      have c0 := hc k hlt
      clear hc
      rw [hA]
      clear hA
      go_wp2_with (go_at_call 133; refine (valid1_any _ _).mono ?_; rintro e w1 ⟨rfl, rfl⟩)
      · have hbad : (!inB xs[k] 0 2) = true := by assumption
        go_ret
        exact ⟨ret_int (firstBad_hit _ xs k hlt hall.out hbad).symm, rfl⟩
      · have hgood : (!inB xs[k] 0 2) = false := by assumption
        go_round
        case rel =>
          refine ⟨k + 1, by omega, by go_num, fun j hj hjk => ?_⟩
          rcases Nat.lt_or_ge j k with h | h
          · exact hall.out j hj h
          · have : j = k := by omega
            subst this
            exact hgood
        case measure => simp [intOf]; omega
    · have : k = xs.length := by omega
      subst this
      go_wp2
      go_ret
      exact ⟨ret_int (firstBad_none _ xs hall.out).symm, rfl⟩

theorem contains133_any (A : Option Addr) (c : Nat) (xs : List Int) (w : World) (hL : RowAt w A (intCells xs)) (hn : xs.length ≤ 9223372036854775807) :
    Calls Try.prog 112 #[.slice A xs.length c, .func (.func 133) #[] #[]] w fun e w' => e = .returned (.bool (xs.any (fun n => !inB n 0 2))) ∧ w = w' := by
  go_enter Try.func112, Try.ntmps112
  go_wp2_with (go_at_call 131; refine (index133_any _ _ _ _ hL hn).mono ?_; rintro e w1 ⟨rfl, rfl⟩)
  go_ret
  exact ⟨ret_bool (firstBad_any _ xs), rfl⟩

end Go.Proofs.Ythmngnfdfelkeaa
